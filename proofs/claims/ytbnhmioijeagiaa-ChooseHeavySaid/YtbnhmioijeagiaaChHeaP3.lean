/- Texts of this proof, one behind the other (Chk5, Chk6, Cht1, Cht2, Cht3, Cht4, AbU, Cht5, Cht6, Cht7, For1, For0, Cht8, Cht9, Pre1, Pre2, Pre3, Pre4, Pre5, Bld1). No condition. -/
import Derived.Test.YtbnhmioijeagiaaChHeaP2
import Derived.Laws.StructEq
/- Chapter 13's reference, names that come back to themselves: the walk. No condition. -/
set_option linter.unusedVariables false
set_option linter.unusedSimpArgs false
namespace Go.Proofs.Ytbnhmioijeagiaa.Ab
attribute [local irreducible] thenA inBlockA ACode AOps put IntKind.wrap

def getM (F : List (List Bool)) (i j : Nat) : Bool := (F.getD i []).getD j false
def setM (F : List (List Bool)) (i j : Nat) (v : Bool) : List (List Bool) := F.set i ((F.getD i []).set j v)
def aloneT (null : List Bool) (l : List Int) (k j : Nat) : Bool := decide (0 ≤ l.getD k 0) && (List.range j).all fun q => (q == k) || (decide (0 ≤ l.getD q 0) && null.getD (l.getD q 0).toNat false)
def edgeS (null : List Bool) (r : Ru) (F : List (List Bool)) (k : Nat) : List (List Bool) := if aloneT null r.right k r.right.length then setM F r.left.toNat (r.right.getD k 0).toNat true else F
def edgeR (null : List Bool) (F : List (List Bool)) (r : Ru) : List (List Bool) := (List.range r.right.length).foldl (edgeS null r) F
def closS (k i : Nat) (F : List (List Bool)) (j : Nat) : List (List Bool) := setM F i j (getM F i j || getM F i k && getM F k j)
def closR (n k : Nat) (F : List (List Bool)) (i : Nat) : List (List Bool) := (List.range n).foldl (closS k i) F
def closK (n : Nat) (F : List (List Bool)) (k : Nat) : List (List Bool) := (List.range n).foldl (closR n k) F
def closF (n : Nat) (F : List (List Bool)) : List (List Bool) := (List.range n).foldl (closK n) F
def edgeF (g : Gr) (n : Nat) : List (List Bool) := g.rules.foldl (edgeR (nullF g n)) (zeroF n (n - 1))
def diagT (F : List (List Bool)) (i : Nat) : List Bool := (List.range i).map fun i => getM F i i
def cycF (g : Gr) (n : Nat) : List Bool := diagT (closF n (edgeF g n)) n

theorem range_drop {n i : Nat} (h : i < n) : (List.range n).drop i = i :: (List.range n).drop (i + 1) := by
  rw [List.drop_eq_getElem_cons (by simpa using h)]; simp
theorem range_dropn (n : Nat) : (List.range n).drop n = [] := List.drop_of_length_le (by simp)
theorem aloneT_succ (null : List Bool) (l : List Int) (k j : Nat) : aloneT null l k (j + 1) = (aloneT null l k j && ((j == k) || (decide (0 ≤ l.getD j 0) && null.getD (l.getD j 0).toNat false))) := by
  unfold aloneT; rw [List.range_succ, List.all_append]; simp [Bool.and_assoc]
theorem aloneT_mono {null : List Bool} {l : List Int} {k j : Nat} (h : aloneT null l k j = false) (i : Nat) : aloneT null l k (j + i) = false := by
  induction i with
  | zero => exact h
  | succ i ih => rw [← Nat.add_assoc, aloneT_succ, ih]; rfl
theorem fok_at {n k : Nat} {F : List (List Bool)} (h : FOk n k F) {i : Nat} (hi : i < n) : ∃ x, F[i]? = some x ∧ x.length = k + 1 := by
  have : i < F.length := by rw [h.1]; exact hi
  exact ⟨F[i], List.getElem?_eq_getElem this, h.2 _ (List.getElem_mem this)⟩
theorem setM_ok {n k : Nat} {F : List (List Bool)} (h : FOk n k F) {i : Nat} (hi : i < n) (j : Nat) (v : Bool) : FOk n k (setM F i j v) := by
  obtain ⟨x, hx, hl⟩ := fok_at h hi
  refine ⟨by simp [setM, h.1], fun y hy => ?_⟩
  rcases List.mem_or_eq_of_mem_set hy with h2 | h2
  · exact h.2 y h2
  · subst h2; rw [List.getD_eq_getElem?_getD, hx]; simp [hl]
theorem getM_of {F : List (List Bool)} {i j : Nat} {x : List Bool} {v : Bool} (hx : F[i]? = some x) (hv : x[j]? = some v) : getM F i j = v := by
  have h1 : F.getD i [] = x := by rw [List.getD_eq_getElem?_getD, hx]; rfl
  unfold getM; rw [h1, List.getD_eq_getElem?_getD, hv]; rfl
theorem setM_of {F : List (List Bool)} {i j : Nat} {x : List Bool} (hx : F[i]? = some x) (v : Bool) : setM F i j v = F.set i (x.set j v) := by
  unfold setM; rw [List.getD_eq_getElem?_getD, hx]; rfl
theorem intD_at {l : List Int} {i : Nat} (h : i < l.length) : l[i]? = some (l.getD i 0) := by
  rw [List.getD_eq_getElem?_getD, List.getElem?_eq_getElem h]; rfl

set_option maxHeartbeats 16000000 in
theorem cyclic_calls {g : Gr} {n k : Nat} (hg : GrOk g) (h : (formF g).2 = 0) (hn : g.names = n) (hk : n = k + 1) (hn2 : n ≤ 1000) (hw : ∀ r ∈ g.rules, isName g r.left) (hsy : ∀ r ∈ g.rules, ∀ s ∈ r.right, isSym g s) (M : List Ob) :
    ACalls Try.prog 32 [grA g] M (fun r M' => r = .psl n (bools (cycF g n)) ∧ M' = M) := by
  have hrl := hg.rl
  have hlt : ∀ r ∈ g.rules, r.left.toNat < n := fun r hr => by have := hw r hr; unfold isName at this; omega
  have hnl := nullF_len g n
  refine acalls_of_code 166 Try.func32 rfl rfl rfl ?_
  repeat (first | refine acode_seq ?_ | refine acode_region ?_)
  refine aops_boxf rfl rfl rfl rfl rfl rfl rfl ?_
  repeat (first | refine aops_end ?_ | refine aops_p tok rfl rfl rfl rfl ?_ | refine acode_seq ?_ | refine acode_region ?_)
  refine aops_callx Try.func68 rfl rfl rfl rfl (formed_calls hg _) rfl rfl rfl ?_
  rw [decide_eq_true h]
  repeat' (first | refine aops_end ?_ | refine aops_p tok rfl rfl rfl rfl ?_ | refine acode_if rfl ?_ | refine acode_seq ?_ | refine acode_region ?_ | refine acode_skip ?_ | refine then_n ?_)
  refine aops_callx Try.func70 rfl rfl rfl rfl (rnullable_calls hg h hn hn2 hw hsy _) rfl rfl rfl ?_
  have hE : edgeF g n = g.rules.foldl (edgeR (nullF g n)) (zeroF n k) := by unfold edgeF; rw [hk]; rfl
  have hC : cycF g n = diagT (closF n (edgeF g n)) n := rfl
  rw [hE] at hC
  generalize cycF g n = fin at *
  subst hC
  generalize hnull : nullF g n = null at *
  clear hE hnull
  repeat (first | refine aops_end ?_ | refine aops_p tok rfl rfl rfl rfl ?_ | refine acode_seq ?_ | refine acode_region ?_)
  refine aops_mk tok n rfl rfl rfl rfl hn rfl (by show _ * 24 ≤ _; omega) (by omega) rfl rfl rfl fun fb => ?_
  repeat (first | refine aops_end ?_ | refine aops_p tok rfl rfl rfl rfl ?_ | refine acode_seq ?_ | refine acode_region ?_ | refine acode_block ?_)
  refine acode_loopS (ι := Nat × List Nat) (fun p => [(1, .pp (grC g)), (3, .psl n (bools null)), (4, .int .i64 g.names), (5, .own (some fb) n n), (6, .int .i64 p.1)]) (fun p => ⟨some fb, n * 1, ownsA k p.2 ++ List.replicate (n - p.1) A.nils⟩ :: (obsZ k p.2 (zeroF p.1 k) ++ M)) (fun p => n - p.1) (fun p => p.1 ≤ n ∧ p.2.length = p.1) (0, []) ⟨Nat.zero_le _, rfl⟩ ⟨rfl, rfl, rfl, rfl, rfl, trivial⟩ (by simp only; rw [show List.replicate (n - 0) A.nils = zerosA [A.nils] n from (zerosA_one _ _).symm]; rfl) ?_
  rintro ⟨i, bs⟩ ⟨hi, hbs⟩
  simp only at hi hbs ⊢
  repeat (first | refine aops_end ?_ | refine aops_p tok rfl rfl rfl rfl ?_ | refine acode_seq ?_ | refine acode_region ?_)
  refine acode_id rfl (fun e => ?_) (fun e => ?_)
  · have hil : i < n := by omega
    repeat (first | refine aops_p tok rfl rfl rfl rfl ?_ | refine acode_seq ?_ | refine acode_region ?_ | refine acode_block ?_ | refine acode_skip ?_ | refine then_n ?_)
    refine aops_mk tok (k + 1) rfl rfl rfl rfl (by omega) rfl (by show _ * 1 ≤ _; omega) (by omega) rfl rfl rfl fun b2 => ?_
    skip
    refine aops_ixo tok rfl rfl rfl rfl (by omega) (by omega) rfl rfl rfl ?_
    refine aops_stk tok 1 (ownsA k (bs ++ [b2]) ++ List.replicate (n - (i + 1)) A.nils) _ rfl rfl rfl rfl rfl rfl (by rw [List.length_append, ownsA_len, List.length_replicate, hbs]; show i * 1 + 1 ≤ _; omega) (fill_next hbs hil) rfl rfl rfl ?_
    have hz : obsZ k (bs ++ [b2]) (zeroF (i + 1) k) = obsZ k bs (zeroF i k) ++ [⟨some b2, (k + 1) * 1, bools (zeroB k)⟩] := by
      rw [show zeroF (i + 1) k = zeroF i k ++ [zeroB k] from List.replicate_succ', obsZ_app (by rw [hbs, zeroF_len])]; rfl
    refine aops_perm (⟨some fb, n * 1, ownsA k (bs ++ [b2]) ++ List.replicate (n - (i + 1)) A.nils⟩ :: (obsZ k (bs ++ [b2]) (zeroF (i + 1) k) ++ M)) ?_ ?_
    · rw [hz, List.append_assoc, show bools (zeroB k) = zerosA [A.bool false] (k + 1) from (bools_zeros _).symm]
      exact (List.perm_middle (l₁ := _ :: obsZ k bs (zeroF i k))).symm
    repeat (first | refine aops_end ?_ | refine aops_endb ?_ | refine aops_a tok rfl (by omega) (by omega) rfl rfl rfl ?_ | refine aops_p tok rfl rfl rfl rfl ?_ | refine acode_region ?_ | refine then_n ?_)
    exact ⟨(i + 1, bs ++ [b2]), ⟨by simp; omega, by simp [hbs]⟩, by simp; omega, ⟨rfl, rfl, rfl, rfl, rfl, trivial⟩, rfl⟩
  obtain rfl : n = i := by omega
  clear e hi
  rw [show ownsA k bs ++ List.replicate (n - n) A.nils = ownsA k bs by simp]
  refine acode_exit ?_
  repeat (first | refine exit_then ?_ | refine exit_here ?_ | refine then_n ?_)
  have hbat : ∀ {j : Nat}, j < n → ∃ b, bs[j]? = some b := fun {j} hj => ⟨bs[j]'(by omega), List.getElem?_eq_getElem (by omega)⟩
  have hz0 : FOk n k (zeroF n k) := ⟨zeroF_len n k, zeroF_all⟩
  generalize zeroF n k = Z at *
  repeat (first | refine aops_end ?_ | refine aops_p tok rfl rfl rfl rfl ?_ | refine acode_seq ?_ | refine acode_region ?_ | refine acode_block ?_)
  refine acode_loopS (ι := Nat × List (List Bool)) (fun p => [(1, .pp (grC g)), (3, .psl n (bools null)), (4, .int .i64 g.names), (5, .own (some fb) n n), (7, .int .i64 p.1)]) (fun p => ⟨some fb, n * 1, ownsA k bs⟩ :: (obsZ k bs p.2 ++ M)) (fun p => g.rules.length - p.1) (fun p => p.1 ≤ g.rules.length ∧ FOk n k p.2 ∧ (g.rules.drop p.1).foldl (edgeR null) p.2 = g.rules.foldl (edgeR null) Z) (0, Z) ⟨Nat.zero_le _, hz0, rfl⟩ ⟨rfl, rfl, rfl, rfl, rfl, trivial⟩ rfl ?_
  rintro ⟨i, F⟩ ⟨hi, hF, hfold⟩
  simp only at hi hF hfold ⊢
  repeat (first | refine aops_end ?_ | refine aops_p tok rfl rfl rfl rfl ?_ | refine acode_seq ?_ | refine acode_region ?_)
  refine acode_id rfl (fun e => ?_) (fun e => ?_)
  · have hil : i < g.rules.length := by omega
    obtain ⟨r, hr⟩ : ∃ r, g.rules[i]? = some r := ⟨g.rules[i], List.getElem?_eq_getElem hil⟩
    have hrm := List.mem_of_getElem? hr
    have hdr : g.rules.drop i = r :: g.rules.drop (i + 1) := by
      rw [List.drop_eq_getElem_cons hil]
      rw [List.getElem?_eq_getElem hil] at hr
      rw [Option.some.inj hr]
    rw [hdr, List.foldl_cons] at hfold
    obtain ⟨hr0, hr1⟩ := hw r hrm
    have hl1 := hlt r hrm
    have hrr := (hg.rr r hrm).1
    obtain ⟨bl, hbl⟩ := hbat hl1
    repeat (first | refine aops_p tok rfl rfl rfl rfl ?_ | refine acode_seq ?_ | refine acode_region ?_ | refine acode_block ?_ | refine acode_skip ?_ | refine then_n ?_)
    refine aops_ix tok (ruC r) rfl rfl rfl rfl (by omega) (by omega) (by simp [ruC]) (encs_at (e := ruC) (s := 3) (fun _ => rfl) (i := (i : Int).toNat) (by simpa using hr)) rfl rfl rfl ?_
    repeat (refine aops_p tok rfl rfl rfl rfl ?_)
    refine aops_alloc tok rfl rfl rfl rfl rfl rfl fun ba => ?_
    refine aops_stn tok rfl rfl rfl rfl rfl rfl rfl rfl rfl ?_
    refine aops_pubref0 8 rfl ?_
    repeat (first | refine aops_end ?_ | refine aops_p tok rfl rfl rfl rfl ?_ | refine acode_seq ?_ | refine acode_region ?_ | refine acode_block ?_)
    refine acode_loopS (ι := Nat × List (List Bool)) (fun p => [(1, .pp (grC g)), (3, .psl n (bools null)), (4, .int .i64 g.names), (5, .own (some fb) n n), (7, .int .i64 i), (8, .pp (ruC r)), (9, .int .i64 p.1)]) (fun p => ⟨some fb, n * 1, ownsA k bs⟩ :: (obsZ k bs p.2 ++ M)) (fun p => r.right.length - p.1) (fun p => p.1 ≤ r.right.length ∧ FOk n k p.2 ∧ ((List.range r.right.length).drop p.1).foldl (edgeS null r) p.2 = edgeR null F r) (0, F) ⟨Nat.zero_le _, hF, rfl⟩ ⟨rfl, rfl, rfl, rfl, rfl, rfl, rfl, trivial⟩ rfl ?_
    rintro ⟨q, F1⟩ ⟨hq, hF1, hf1⟩
    simp only at hq hF1 hf1 ⊢
    repeat (first | refine aops_end ?_ | refine aops_p tok rfl rfl rfl rfl ?_ | refine acode_seq ?_ | refine acode_region ?_)
    refine acode_id rfl (fun e1 => ?_) (fun e1 => ?_)
    · have hql : q < r.right.length := by omega
      rw [range_drop hql, List.foldl_cons] at hf1
      have hs := intD_at hql
      have hss := hsy r hrm _ (List.mem_of_getElem? hs)
      generalize hsd : r.right.getD q 0 = s at *
      repeat (first | refine aops_p tok rfl rfl rfl rfl ?_ | refine acode_seq ?_ | refine acode_region ?_ | refine acode_block ?_ | refine acode_skip ?_ | refine then_n ?_)
      refine aops_ix tok [A.int .i64 s] rfl rfl rfl rfl (by omega) (by omega) (by simp) (ints_at (j := q) (by simpa using hs)) rfl rfl rfl ?_
      by_cases hs0 : 0 ≤ s
      · have hname : isName g s := hss.resolve_left (fun h1 => by unfold isKind at h1; omega)
        obtain ⟨n0, n1⟩ := id hname
        repeat' (first | refine aops_end ?_ | refine aops_pbt tok rfl (by first | omega | decide) rfl rfl rfl ?_ | refine aops_p tok rfl rfl rfl rfl ?_ | refine acode_seq ?_ | refine acode_region ?_ | refine acode_block ?_)
        refine acode_loopS (ι := Nat) (fun j => [(1, .pp (grC g)), (3, .psl n (bools null)), (4, .int .i64 g.names), (5, .own (some fb) n n), (7, .int .i64 i), (8, .pp (ruC r)), (9, .int .i64 q), (10, .bool (aloneT null r.right q j)), (11, .int .i64 j)]) (fun _ => ⟨some fb, n * 1, ownsA k bs⟩ :: (obsZ k bs F1 ++ M)) (fun j => r.right.length - j) (fun j => j ≤ r.right.length) 0 (Nat.zero_le _) ⟨rfl, rfl, rfl, rfl, rfl, rfl, rfl, by unfold aloneT; rw [hsd, decide_eq_true hs0]; rfl, rfl, trivial⟩ rfl ?_
        intro j hj
        cases hal : aloneT null r.right q j with
        | false =>
          have hal2 : aloneT null r.right q r.right.length = false := by have := aloneT_mono hal (r.right.length - j); rwa [show j + (r.right.length - j) = r.right.length by omega] at this
          have hst : edgeS null r F1 q = F1 := by unfold edgeS; rw [hal2]; rfl
          rw [hst] at hf1
          repeat' (first | refine aops_end ?_ | refine aops_o rfl rfl rfl ?_ | (refine aops_pd tok rfl rfl rfl rfl ?_ ?_ <;> intro e_) | refine aops_p tok rfl rfl rfl rfl ?_ | refine acode_if rfl ?_ | refine acode_seq ?_ | refine acode_region ?_)
          all_goals
            refine acode_exit ?_
            repeat (first | refine exit_then ?_ | refine exit_here ?_ | refine then_n ?_)
            repeat' (first | refine aops_end ?_ | refine aops_a tok rfl (by omega) (by omega) rfl rfl rfl ?_ | refine aops_p tok rfl rfl rfl rfl ?_ | refine acode_if rfl ?_ | refine acode_seq ?_ | refine acode_region ?_ | refine acode_skip ?_ | refine then_n ?_ | refine block_n ?_)
            exact ⟨(q + 1, F1), ⟨by simp; omega, hF1, hf1⟩, by simp; omega, ⟨rfl, rfl, rfl, rfl, rfl, rfl, rfl, trivial⟩, rfl⟩
        | true =>
          by_cases hjl : j < r.right.length
          · have hsu := aloneT_succ null r.right q j
            rw [hal, Bool.true_and] at hsu
            have ht := intD_at hjl
            have hts := hsy r hrm _ (List.mem_of_getElem? ht)
            generalize htd : r.right.getD j 0 = t at *
            by_cases hjq : j = q
            · rw [show (j == q) = true by simpa using hjq, Bool.true_or] at hsu
              repeat' (first | refine aops_end ?_ | refine aops_endb ?_ | refine aops_o rfl rfl rfl ?_ | refine aops_a tok rfl (by omega) (by omega) rfl rfl rfl ?_ | refine aops_pbt tok rfl (by first | omega | decide) rfl rfl rfl ?_ | refine aops_p tok rfl rfl rfl rfl ?_ | refine acode_it rfl ?_ | refine acode_seq ?_ | refine acode_region ?_ | refine acode_block ?_ | refine acode_skip ?_ | refine then_n ?_)
              exact ⟨j + 1, by omega, by omega, ⟨rfl, rfl, rfl, rfl, rfl, rfl, rfl, by rw [hsu]; rfl, rfl, trivial⟩, rfl⟩
            · rw [show (j == q) = false by simpa using hjq, Bool.false_or] at hsu
              repeat' (first | refine aops_end ?_ | refine aops_pbt tok rfl (by first | omega | decide) rfl rfl rfl ?_ | refine aops_pbf tok rfl (by first | omega | decide) rfl rfl rfl ?_ | refine aops_p tok rfl rfl rfl rfl ?_ | refine acode_it rfl ?_ | refine acode_seq ?_ | refine acode_region ?_ | refine acode_block ?_ | refine acode_skip ?_ | refine then_n ?_)
              refine aops_ix tok [A.int .i64 t] rfl rfl rfl rfl (by omega) (by omega) (by simp) (ints_at (j := j) (by simpa using ht)) rfl rfl rfl ?_
              by_cases ht0 : 0 ≤ t
              · have hnm : isName g t := hts.resolve_left (fun h1 => by unfold isKind at h1; omega)
                obtain ⟨m0, m1⟩ := id hnm
                have hz := getD_at (l := null) (i := t.toNat) (by omega)
                rw [decide_eq_true ht0, Bool.true_and] at hsu
                generalize null.getD t.toNat false = z at *
                repeat' (first | refine aops_pbt tok rfl (by first | omega | decide) rfl rfl rfl ?_ | refine aops_p tok rfl rfl rfl rfl ?_)
                refine aops_ix tok [A.int .i64 t] rfl rfl rfl rfl (by omega) (by omega) (by simp) (ints_at (j := j) (by simpa using ht)) rfl rfl rfl ?_
                repeat (refine aops_p tok rfl rfl rfl rfl ?_)
                refine aops_ix tok [A.bool z] rfl rfl rfl rfl ht0 (by omega) (by simp) (bools_at hz) rfl rfl rfl ?_
                repeat (first | refine aops_end ?_ | refine aops_endb ?_ | refine aops_a tok rfl (by omega) (by omega) rfl rfl rfl ?_ | refine aops_p tok rfl rfl rfl rfl ?_ | refine acode_region ?_ | refine then_n ?_)
                exact ⟨j + 1, by omega, by omega, ⟨rfl, rfl, rfl, rfl, rfl, rfl, rfl, by rw [hsu]; rfl, rfl, trivial⟩, rfl⟩
              · rw [decide_eq_false ht0, Bool.false_and] at hsu
                repeat' (first | refine aops_end ?_ | refine aops_endb ?_ | refine aops_o rfl rfl rfl ?_ | refine aops_a tok rfl (by omega) (by omega) rfl rfl rfl ?_ | refine aops_pbf tok rfl (by first | omega | decide) rfl rfl rfl ?_ | refine aops_p tok rfl rfl rfl rfl ?_ | refine acode_region ?_ | refine then_n ?_)
                exact ⟨j + 1, by omega, by omega, ⟨rfl, rfl, rfl, rfl, rfl, rfl, rfl, by rw [hsu]; rfl, rfl, trivial⟩, rfl⟩
          · obtain rfl : j = r.right.length := by omega
            have hst : edgeS null r F1 q = setM F1 r.left.toNat s.toNat true := by unfold edgeS; rw [hal, hsd]; rfl
            obtain ⟨x, hx, hxl⟩ := fok_at hF1 hl1
            have hok2 := setM_ok hF1 hl1 s.toNat true
            rw [hst] at hf1
            rw [setM_of hx] at hf1 hok2
            repeat' (first | refine aops_end ?_ | refine aops_o rfl rfl rfl ?_ | refine aops_pbf tok rfl (by first | omega | decide) rfl rfl rfl ?_ | refine aops_p tok rfl rfl rfl rfl ?_ | refine acode_if rfl ?_ | refine acode_seq ?_ | refine acode_region ?_)
            refine acode_exit ?_
            repeat (first | refine exit_then ?_ | refine exit_here ?_ | refine then_n ?_)
            repeat' (first | refine aops_end ?_ | refine aops_p tok rfl rfl rfl rfl ?_ | refine acode_it rfl ?_ | refine acode_seq ?_ | refine acode_region ?_)
            refine acode_drawT 10 mixed (by kernel_rfl) (by kernel_rfl) ?_
            repeat (refine seqT_p tok rfl rfl rfl rfl ?_)
            refine seqT_ixo tok rfl rfl rfl rfl hr0 (by omega) rfl rfl rfl ?_
            refine seqT_ld tok 0 (y := .own (some bl) (k + 1) (k + 1)) rfl rfl rfl rfl (by rw [headed_eq]; exact ownsA_get hbl) rfl rfl rfl ?_
            repeat (refine seqT_p tok rfl rfl rfl rfl ?_)
            refine seqT_ix tok [A.int .i64 s] rfl rfl rfl rfl (by omega) (by omega) (by simp) (ints_at (j := q) (by simpa using hs)) rfl rfl rfl ?_
            repeat (refine seqT_p tok rfl rfl rfl rfl ?_)
            refine SeqT.done ?_
            refine aops_ixo tok rfl rfl rfl rfl n0 (by omega) rfl rfl rfl ?_
            refine aops_stk tok (r.left.toNat + 1) (bools (x.set s.toNat true)) (⟨some fb, n * 1, ownsA k bs⟩ :: (obsZ k bs (F1.set r.left.toNat (x.set s.toNat true)) ++ M)) rfl rfl rfl rfl (obs_at hbl hx) rfl (by rw [bools_len, hxl]; show s.toNat * 1 + 1 ≤ _; omega) (bools_set (by omega) _) (obs_set hbl hx _) rfl rfl ?_
            repeat (first | refine aops_end ?_ | refine aops_endb ?_ | refine aops_a tok rfl (by omega) (by omega) rfl rfl rfl ?_ | refine aops_p tok rfl rfl rfl rfl ?_ | refine acode_region ?_ | refine then_n ?_)
            exact ⟨(q + 1, F1.set r.left.toNat (x.set s.toNat true)), ⟨by simp; omega, hok2, hf1⟩, by simp; omega, ⟨rfl, rfl, rfl, rfl, rfl, rfl, rfl, trivial⟩, rfl⟩
      · have hst : edgeS null r F1 q = F1 := by
          unfold edgeS; rw [if_neg]; unfold aloneT; rw [hsd, decide_eq_false hs0]; simp
        rw [hst] at hf1
        repeat' (first | refine aops_end ?_ | refine aops_pbf tok rfl (by first | omega | decide) rfl rfl rfl ?_ | refine aops_p tok rfl rfl rfl rfl ?_ | refine acode_seq ?_ | refine acode_region ?_ | refine acode_block ?_)
        refine acode_loopS (ι := Unit) (fun _ => [(1, .pp (grC g)), (3, .psl n (bools null)), (4, .int .i64 g.names), (5, .own (some fb) n n), (7, .int .i64 i), (8, .pp (ruC r)), (9, .int .i64 q), (10, .bool false), (11, .int .i64 0)]) (fun _ => ⟨some fb, n * 1, ownsA k bs⟩ :: (obsZ k bs F1 ++ M)) (fun _ => 0) (fun _ => True) () trivial ⟨rfl, rfl, rfl, rfl, rfl, rfl, rfl, rfl, rfl, trivial⟩ rfl ?_
        intro _ _
        repeat' (first | refine aops_end ?_ | refine aops_pbt tok rfl (by first | omega | decide) rfl rfl rfl ?_ | refine aops_p tok rfl rfl rfl rfl ?_ | refine acode_if rfl ?_ | refine acode_seq ?_ | refine acode_region ?_)
        refine acode_exit ?_
        repeat (first | refine exit_then ?_ | refine exit_here ?_ | refine then_n ?_)
        repeat' (first | refine aops_end ?_ | refine aops_a tok rfl (by omega) (by omega) rfl rfl rfl ?_ | refine aops_p tok rfl rfl rfl rfl ?_ | refine acode_if rfl ?_ | refine acode_seq ?_ | refine acode_region ?_ | refine acode_skip ?_ | refine then_n ?_ | refine block_n ?_)
        exact ⟨(q + 1, F1), ⟨by simp; omega, hF1, hf1⟩, by simp; omega, ⟨rfl, rfl, rfl, rfl, rfl, rfl, rfl, trivial⟩, rfl⟩
    · obtain rfl : q = r.right.length := by omega
      rw [range_dropn, List.foldl_nil] at hf1
      rw [← hf1] at hfold
      refine acode_exit ?_
      repeat (first | refine exit_then ?_ | refine exit_here ?_ | refine then_n ?_ | refine block_n ?_)
      repeat (first | refine aops_end ?_ | refine aops_a tok rfl (by omega) (by omega) rfl rfl rfl ?_ | refine aops_p tok rfl rfl rfl rfl ?_ | refine acode_region ?_)
      exact ⟨(i + 1, F1), ⟨by simp; omega, hF1, hfold⟩, by simp; omega, ⟨rfl, rfl, rfl, rfl, rfl, trivial⟩, rfl⟩
  obtain rfl : i = g.rules.length := by omega
  rw [List.drop_length, List.foldl_nil] at hfold
  rw [← hfold]
  clear hfold hi e
  refine acode_exit ?_
  repeat (first | refine exit_then ?_ | refine exit_here ?_ | refine then_n ?_)
  have hdec : diagT (closF n F) n = diagT (closF n F) n := rfl
  generalize hfin : closF n F = fin
  unfold closF at hfin
  repeat (first | refine aops_end ?_ | refine aops_p tok rfl rfl rfl rfl ?_ | refine acode_seq ?_ | refine acode_region ?_ | refine acode_block ?_)
  refine acode_loopS (ι := Nat × List (List Bool)) (fun p => [(4, .int .i64 g.names), (5, .own (some fb) n n), (12, .int .i64 p.1)]) (fun p => ⟨some fb, n * 1, ownsA k bs⟩ :: (obsZ k bs p.2 ++ M)) (fun p => n - p.1) (fun p => p.1 ≤ n ∧ FOk n k p.2 ∧ ((List.range n).drop p.1).foldl (closK n) p.2 = fin) (0, F) ⟨Nat.zero_le _, hF, hfin⟩ ⟨rfl, rfl, rfl, trivial⟩ rfl ?_
  clear hdec hfin hF
  rintro ⟨q, F⟩ ⟨hq, hF, hfin⟩
  simp only at hq hF hfin ⊢
  repeat (first | refine aops_end ?_ | refine aops_p tok rfl rfl rfl rfl ?_ | refine acode_seq ?_ | refine acode_region ?_)
  refine acode_id rfl (fun e => ?_) (fun e => ?_)
  · have hql : q < n := by omega
    rw [range_drop hql, List.foldl_cons] at hfin
    obtain ⟨bq, hbq⟩ := hbat hql
    generalize hfk : closK n F q = Fk at hfin
    unfold closK at hfk
    repeat (first | refine aops_end ?_ | refine aops_p tok rfl rfl rfl rfl ?_ | refine acode_seq ?_ | refine acode_region ?_ | refine acode_block ?_ | refine acode_skip ?_ | refine then_n ?_)
    refine acode_loopS (ι := Nat × List (List Bool)) (fun p => [(4, .int .i64 g.names), (5, .own (some fb) n n), (12, .int .i64 q), (13, .int .i64 p.1)]) (fun p => ⟨some fb, n * 1, ownsA k bs⟩ :: (obsZ k bs p.2 ++ M)) (fun p => n - p.1) (fun p => p.1 ≤ n ∧ FOk n k p.2 ∧ ((List.range n).drop p.1).foldl (closR n q) p.2 = Fk) (0, F) ⟨Nat.zero_le _, hF, hfk⟩ ⟨rfl, rfl, rfl, rfl, trivial⟩ rfl ?_
    clear hfk hF
    rintro ⟨i, F⟩ ⟨hi, hF, hfk⟩
    simp only at hi hF hfk ⊢
    repeat (first | refine aops_end ?_ | refine aops_p tok rfl rfl rfl rfl ?_ | refine acode_seq ?_ | refine acode_region ?_)
    refine acode_id rfl (fun e2 => ?_) (fun e2 => ?_)
    · have hil : i < n := by omega
      rw [range_drop hil, List.foldl_cons] at hfk
      obtain ⟨bi, hbi⟩ := hbat hil
      generalize hfi : closR n q F i = Fi at hfk
      unfold closR at hfi
      repeat (first | refine aops_end ?_ | refine aops_p tok rfl rfl rfl rfl ?_ | refine acode_seq ?_ | refine acode_region ?_ | refine acode_block ?_ | refine acode_skip ?_ | refine then_n ?_)
      refine acode_loopS (ι := Nat × List (List Bool)) (fun p => [(4, .int .i64 g.names), (5, .own (some fb) n n), (12, .int .i64 q), (13, .int .i64 i), (14, .int .i64 p.1)]) (fun p => ⟨some fb, n * 1, ownsA k bs⟩ :: (obsZ k bs p.2 ++ M)) (fun p => n - p.1) (fun p => p.1 ≤ n ∧ FOk n k p.2 ∧ ((List.range n).drop p.1).foldl (closS q i) p.2 = Fi) (0, F) ⟨Nat.zero_le _, hF, hfi⟩ ⟨rfl, rfl, rfl, rfl, rfl, trivial⟩ rfl ?_
      clear hfi hF
      rintro ⟨j, F⟩ ⟨hj, hF, hfi⟩
      simp only at hj hF hfi ⊢
      repeat (first | refine aops_end ?_ | refine aops_p tok rfl rfl rfl rfl ?_ | refine acode_seq ?_ | refine acode_region ?_)
      refine acode_id rfl (fun e3 => ?_) (fun e3 => ?_)
      · have hjl : j < n := by omega
        rw [range_drop hjl, List.foldl_cons] at hfi
        obtain ⟨x, hx, hxl⟩ := fok_at hF hil
        obtain ⟨y, hy, hyl⟩ := fok_at hF hql
        obtain ⟨a, ha⟩ : ∃ a, x[j]? = some a := ⟨x[j]'(by omega), List.getElem?_eq_getElem (by omega)⟩
        obtain ⟨b, hb⟩ : ∃ b, x[q]? = some b := ⟨x[q]'(by omega), List.getElem?_eq_getElem (by omega)⟩
        obtain ⟨c, hc⟩ : ∃ c, y[j]? = some c := ⟨y[j]'(by omega), List.getElem?_eq_getElem (by omega)⟩
        have hok2 := setM_ok hF hil j (a || b && c)
        have hst : closS q i F j = setM F i j (a || b && c) := by unfold closS; rw [getM_of hx ha, getM_of hx hb, getM_of hy hc]
        rw [hst] at hfi
        rw [setM_of hx] at hfi hok2
        repeat (first | refine acode_seq ?_ | refine acode_block ?_ | refine acode_skip ?_ | refine then_n ?_)
        refine acode_drawT 30 mixed (by kernel_rfl) (by kernel_rfl) ?_
        repeat (refine seqT_p tok rfl rfl rfl rfl ?_)
        refine seqT_ixo tok rfl rfl rfl rfl (by omega) (by omega) rfl rfl rfl ?_
        refine seqT_ld tok 0 (y := .own (some bi) (k + 1) (k + 1)) rfl rfl rfl rfl (by rw [headed_eq]; exact ownsA_get hbi) rfl rfl rfl ?_
        repeat (refine seqT_p tok rfl rfl rfl rfl ?_)
        refine seqT_ixo tok rfl rfl rfl rfl (by omega) (by omega) rfl rfl rfl ?_
        refine seqT_ld tok 0 (y := .own (some bi) (k + 1) (k + 1)) rfl rfl rfl rfl (by rw [headed_eq]; exact ownsA_get hbi) rfl rfl rfl ?_
        repeat (refine seqT_p tok rfl rfl rfl rfl ?_)
        refine seqT_ixo tok rfl rfl rfl rfl (by omega) (by omega) rfl rfl rfl ?_
        refine seqT_ld tok (i + 1) (y := .bool a) rfl rfl rfl (obs_at hbi hx) (by rw [headed_eq]; exact bools_get ha) rfl rfl rfl ?_
        cases a with
        | true =>
          repeat (first | refine seqT_o rfl rfl rfl ?_ | refine seqT_p tok rfl rfl rfl rfl ?_)
          refine SeqT.done ?_
          refine aops_ixo tok rfl rfl rfl rfl (by omega) (by omega) rfl rfl rfl ?_
          refine aops_stk tok (i + 1) (bools (x.set j (true || b && c))) (⟨some fb, n * 1, ownsA k bs⟩ :: (obsZ k bs (F.set i (x.set j (true || b && c))) ++ M)) rfl rfl rfl rfl (obs_at hbi hx) rfl (by rw [bools_len, hxl]; show j * 1 + 1 ≤ _; omega) (bools_set (by omega) _) (obs_set hbi hx _) rfl rfl ?_
          repeat (first | refine aops_end ?_ | refine aops_endb ?_ | refine aops_a tok rfl (by omega) (by omega) rfl rfl rfl ?_ | refine aops_p tok rfl rfl rfl rfl ?_ | refine acode_region ?_ | refine then_n ?_)
          exact ⟨(j + 1, F.set i (x.set j (true || b && c))), ⟨by simp; omega, hok2, hfi⟩, by simp; omega, ⟨rfl, rfl, rfl, rfl, rfl, trivial⟩, rfl⟩
        | false =>
          repeat (refine seqT_p tok rfl rfl rfl rfl ?_)
          refine seqT_ixo tok rfl rfl rfl rfl (by omega) (by omega) rfl rfl rfl ?_
          refine seqT_ld tok 0 (y := .own (some bi) (k + 1) (k + 1)) rfl rfl rfl rfl (by rw [headed_eq]; exact ownsA_get hbi) rfl rfl rfl ?_
          repeat (refine seqT_p tok rfl rfl rfl rfl ?_)
          refine seqT_ixo tok rfl rfl rfl rfl (by omega) (by omega) rfl rfl rfl ?_
          refine seqT_ld tok (i + 1) (y := .bool b) rfl rfl rfl (obs_at hbi hx) (by rw [headed_eq]; exact bools_get hb) rfl rfl rfl ?_
          cases b with
          | false =>
            repeat (first | refine seqT_o rfl rfl rfl ?_ | refine seqT_p tok rfl rfl rfl rfl ?_)
            refine SeqT.done ?_
            refine aops_ixo tok rfl rfl rfl rfl (by omega) (by omega) rfl rfl rfl ?_
            refine aops_stk tok (i + 1) (bools (x.set j (false || false && c))) (⟨some fb, n * 1, ownsA k bs⟩ :: (obsZ k bs (F.set i (x.set j (false || false && c))) ++ M)) rfl rfl rfl rfl (obs_at hbi hx) rfl (by rw [bools_len, hxl]; show j * 1 + 1 ≤ _; omega) (bools_set (by omega) _) (obs_set hbi hx _) rfl rfl ?_
            repeat (first | refine aops_end ?_ | refine aops_endb ?_ | refine aops_a tok rfl (by omega) (by omega) rfl rfl rfl ?_ | refine aops_p tok rfl rfl rfl rfl ?_ | refine acode_region ?_ | refine then_n ?_)
            exact ⟨(j + 1, F.set i (x.set j (false || false && c))), ⟨by simp; omega, hok2, hfi⟩, by simp; omega, ⟨rfl, rfl, rfl, rfl, rfl, trivial⟩, rfl⟩
          | true =>
            repeat (refine seqT_p tok rfl rfl rfl rfl ?_)
            refine seqT_ixo tok rfl rfl rfl rfl (by omega) (by omega) rfl rfl rfl ?_
            refine seqT_ld tok 0 (y := .own (some bq) (k + 1) (k + 1)) rfl rfl rfl rfl (by rw [headed_eq]; exact ownsA_get hbq) rfl rfl rfl ?_
            repeat (refine seqT_p tok rfl rfl rfl rfl ?_)
            refine seqT_ixo tok rfl rfl rfl rfl (by omega) (by omega) rfl rfl rfl ?_
            refine seqT_ld tok (q + 1) (y := .bool c) rfl rfl rfl (obs_at hbq hy) (by rw [headed_eq]; exact bools_get hc) rfl rfl rfl ?_
            repeat (refine seqT_p tok rfl rfl rfl rfl ?_)
            refine SeqT.done ?_
            refine aops_ixo tok rfl rfl rfl rfl (by omega) (by omega) rfl rfl rfl ?_
            refine aops_stk tok (i + 1) (bools (x.set j (false || true && c))) (⟨some fb, n * 1, ownsA k bs⟩ :: (obsZ k bs (F.set i (x.set j (false || true && c))) ++ M)) rfl rfl rfl rfl (obs_at hbi hx) rfl (by rw [bools_len, hxl]; show j * 1 + 1 ≤ _; omega) (bools_set (by omega) _) (obs_set hbi hx _) rfl rfl ?_
            repeat (first | refine aops_end ?_ | refine aops_endb ?_ | refine aops_a tok rfl (by omega) (by omega) rfl rfl rfl ?_ | refine aops_p tok rfl rfl rfl rfl ?_ | refine acode_region ?_ | refine then_n ?_)
            exact ⟨(j + 1, F.set i (x.set j (false || true && c))), ⟨by simp; omega, hok2, hfi⟩, by simp; omega, ⟨rfl, rfl, rfl, rfl, rfl, trivial⟩, rfl⟩
      · obtain rfl : n = j := by omega
        rw [range_dropn, List.foldl_nil] at hfi
        subst hfi
        refine acode_exit ?_
        repeat (first | refine exit_then ?_ | refine exit_here ?_ | refine then_n ?_ | refine block_n ?_)
        repeat (first | refine aops_end ?_ | refine aops_a tok rfl (by omega) (by omega) rfl rfl rfl ?_ | refine aops_p tok rfl rfl rfl rfl ?_ | refine acode_region ?_)
        exact ⟨(i + 1, F), ⟨by simp; omega, hF, hfk⟩, by simp; omega, ⟨rfl, rfl, rfl, rfl, trivial⟩, rfl⟩
    · obtain rfl : n = i := by omega
      rw [range_dropn, List.foldl_nil] at hfk
      subst hfk
      refine acode_exit ?_
      repeat (first | refine exit_then ?_ | refine exit_here ?_ | refine then_n ?_ | refine block_n ?_)
      repeat (first | refine aops_end ?_ | refine aops_a tok rfl (by omega) (by omega) rfl rfl rfl ?_ | refine aops_p tok rfl rfl rfl rfl ?_ | refine acode_region ?_)
      exact ⟨(q + 1, F), ⟨by simp; omega, hF, hfin⟩, by simp; omega, ⟨rfl, rfl, rfl, trivial⟩, rfl⟩
  obtain rfl : n = q := by omega
  rw [range_dropn, List.foldl_nil] at hfin
  subst hfin
  clear e hq
  refine acode_exit ?_
  repeat (first | refine exit_then ?_ | refine exit_here ?_ | refine then_n ?_)
  repeat (first | refine aops_end ?_ | refine aops_p tok rfl rfl rfl rfl ?_ | refine acode_seq ?_ | refine acode_region ?_ | refine acode_block ?_)
  refine acode_adopt 15 1 rfl ?_
  refine acode_loopS (ι := Nat × Option Nat × Nat) (fun p => [(4, .int .i64 g.names), (5, .own (some fb) n n), (15, .own p.2.1 p.1 p.2.2), (16, .int .i64 p.1)]) (fun p => ⟨p.2.1, p.2.2 * 1, bools (diagT F p.1)⟩ :: ⟨some fb, n * 1, ownsA k bs⟩ :: (obsZ k bs F ++ M)) (fun p => n - p.1) (fun p => p.1 ≤ n) (0, none, 0) (Nat.zero_le _) ⟨rfl, rfl, rfl, rfl, trivial⟩ rfl ?_
  rintro ⟨i, ob, cap⟩ hi
  simp only at hi ⊢
  have hdl : ∀ i, (diagT F i).length = i := fun i => by simp [diagT]
  repeat (first | refine aops_end ?_ | refine aops_p tok rfl rfl rfl rfl ?_ | refine acode_seq ?_ | refine acode_region ?_)
  refine acode_id rfl (fun e => ?_) (fun e => ?_)
  · have hil : i < n := by omega
    obtain ⟨x, hx, hxl⟩ := fok_at hF hil
    obtain ⟨bi, hbi⟩ := hbat hil
    obtain ⟨a, ha⟩ : ∃ a, x[i]? = some a := ⟨x[i]'(by omega), List.getElem?_eq_getElem (by omega)⟩
    have hds : diagT F (i + 1) = diagT F i ++ [a] := by unfold diagT; rw [List.range_succ, List.map_append]; simp [getM_of hx ha]
    repeat (first | refine aops_p tok rfl rfl rfl rfl ?_ | refine acode_seq ?_ | refine acode_region ?_ | refine acode_block ?_ | refine acode_skip ?_ | refine then_n ?_)
    refine aops_ixo tok rfl rfl rfl rfl (by omega) (by omega) rfl rfl rfl ?_
    refine aops_ld tok 1 (y := .own (some bi) (k + 1) (k + 1)) rfl rfl rfl rfl (by rw [headed_eq]; exact ownsA_get hbi) rfl rfl rfl ?_
    repeat (refine aops_p tok rfl rfl rfl rfl ?_)
    refine aops_ixo tok rfl rfl rfl rfl (by omega) (by omega) rfl rfl rfl ?_
    refine aops_ld tok (i + 1 + 1) (y := .bool a) rfl rfl rfl (obs_at (o0 := ⟨some fb, n * 1, ownsA k bs⟩) (M := M) hbi hx) (by rw [headed_eq]; exact bools_get ha) rfl rfl rfl ?_
    skip
    refine aops_litn tok rfl rfl rfl rfl rfl rfl rfl ?_
    refine aops_append tok 0 (m := 1) rfl rfl rfl (.inl rfl) rfl rfl (by rw [bools_len, hdl]; show _ = _ * 1; omega) rfl rfl rfl (by show _ * 1 ≤ _; omega) (by omega) rfl rfl fun ob' cap' => ?_
    repeat (first | refine aops_put rfl ?_ | refine aops_end ?_ | refine aops_endb ?_ | refine aops_a tok rfl (by omega) (by omega) rfl rfl rfl ?_ | refine aops_p tok rfl rfl rfl rfl ?_ | refine acode_region ?_ | refine then_n ?_)
    exact ⟨(i + 1, ob', cap'), by simp; omega, by simp; omega, ⟨rfl, rfl, rfl, rfl, trivial⟩, by simp only [hds, bools, List.map_append]; rfl⟩
  · obtain rfl : n = i := by omega
    refine acode_exit ?_
    repeat (first | refine exit_then ?_ | refine exit_here ?_ | refine then_n ?_)
    repeat (first | refine aops_end ?_ | refine aops_p tok rfl rfl rfl rfl ?_ | refine acode_seq ?_ | refine acode_region ?_)
    refine acode_pub0 2 1 rfl rfl (by rw [bools_len, hdl]; omega) rfl ?_
    refine acode_drop0 ?_
    refine acode_dropL _ ?_
    refine acode_ret ?_
    skip
    exact ⟨_, ⟨rfl, rfl⟩, resOf_tmp rfl⟩
end Go.Proofs.Ytbnhmioijeagiaa.Ab
/- Chapter 13's reference, Check: the walk. No condition. -/
set_option linter.unusedVariables false
set_option linter.unusedSimpArgs false
namespace Go.Proofs.Ytbnhmioijeagiaa.Ab
attribute [local irreducible] thenA inBlockA ACode AOps put IntKind.wrap

def useless (g : Gr) (n i : Nat) : Bool := !((reachF g n).getD i false) || !((prodF g n).getD i false)
def chkF (g : Gr) : Int := if (formF g).2 ≠ 0 then (formF g).2 else if (List.range g.names.toNat).any (useless g g.names.toNat) then 7 else if (cycF g g.names.toNat).any id then 8 else 0

theorem rulesF_spec {g : Gr} : ∀ (i : Int) (l : List Ru), (∀ p, rulesF g i l = some p → p.2 ≠ 0) ∧ (rulesF g i l = none → ∀ r ∈ l, ruleF g r = 0)
  | _, [] => ⟨fun p h => by simp [rulesF] at h, fun _ r h => by simp at h⟩
  | i, r :: rs => by
    obtain ⟨h1, h2⟩ := rulesF_spec (g := g) (i + 1) rs
    unfold rulesF
    split
    · rename_i h
      refine ⟨fun p hp => ?_, fun h => by simp at h⟩
      obtain rfl := Option.some.inj hp
      exact h
    · rename_i h
      refine ⟨h1, fun h' q hq => ?_⟩
      rcases List.mem_cons.1 hq with rfl | hq
      · exact Classical.not_not.1 h
      · exact h2 h' q hq
structure FormOk (g : Gr) (n : Nat) : Prop where
  n0 : 1 ≤ n
  n1 : n ≤ 40
  k0 : 0 ≤ g.kinds
  k1 : g.kinds ≤ 40
  rl : g.rules.length ≤ 60
  fl : g.forbid.length ≤ 200
  st : isName g g.start
  left : ∀ r ∈ g.rules, isName g r.left
  sym : ∀ r ∈ g.rules, ∀ s ∈ r.right, isSym g s
  len : ∀ r ∈ g.rules, r.right.length ≤ 8
  forb : ∀ f ∈ g.forbid, forbOk g f
theorem form_ok {g : Gr} (h : (formF g).2 = 0) : FormOk g g.names.toNat ∧ g.names = g.names.toNat := by
  unfold formF at h
  split at h
  · rename_i h1; exact absurd h h1
  rename_i h1
  have hw : wholeF g = 0 := Classical.not_not.1 h1
  unfold wholeF at hw
  split at hw
  · omega
  rename_i hb
  split at hw
  · omega
  rename_i hs
  have hb' : ¬ (g.names < 1 ∨ g.names > 40 ∨ g.kinds < 0 ∨ g.kinds > 40 ∨ g.rules.length > 60 ∨ g.forbid.length > 200) := hb
  obtain ⟨r1, r2⟩ := rulesF_spec (g := g) 0 g.rules
  split at h
  · rename_i p hp; exact absurd h (r1 p hp)
  rename_i hp
  have hr := r2 hp
  split at h
  · simp at h
  rename_i hf
  have hrule : ∀ r ∈ g.rules, (isName g r.left ∧ ∀ s ∈ r.right, isSym g s) ∧ r.right.length ≤ 8 := fun r hr' => by
    have := hr r hr'
    unfold ruleF at this
    split at this
    · omega
    rename_i a
    split at this
    · omega
    rename_i b
    refine ⟨?_, by omega⟩
    have ha := not_or.1 a
    refine ⟨Classical.not_not.1 ha.1, fun s hs => ?_⟩
    have := ha.2
    simp only [List.any_eq_true, not_exists, not_and] at this
    simpa using this s hs
  refine ⟨⟨by omega, by omega, by omega, by omega, by omega, by omega, Classical.not_not.1 hs, fun r h => (hrule r h).1.1, fun r h => (hrule r h).1.2, fun r h => (hrule r h).2, fun f hfm => ?_⟩, by omega⟩
  simp only [List.any_eq_true, not_exists, not_and] at hf
  simpa using hf f hfm

set_option maxHeartbeats 8000000 in
theorem check_calls {g : Gr} (hg : GrOk g) (M : List Ob) : ACalls Try.prog 10 [grA g] M (fun x M' => (∃ a, x = .tup [.int .i64 a, .int .i64 (chkF g)]) ∧ M' = M) := by
  have hC : chkF g = if (formF g).2 ≠ 0 then (formF g).2 else if (List.range g.names.toNat).any (useless g g.names.toNat) then 7 else if (cycF g g.names.toNat).any id then 8 else 0 := rfl
  refine acalls_of_code 56 Try.func10 rfl rfl rfl ?_
  repeat (first | refine acode_seq ?_ | refine acode_region ?_)
  refine aops_boxf rfl rfl rfl rfl rfl rfl rfl ?_
  repeat (first | refine aops_end ?_ | refine aops_p tok rfl rfl rfl rfl ?_ | refine acode_seq ?_ | refine acode_region ?_)
  refine aops_callx Try.func29 rfl rfl rfl rfl (rform_calls hg _) rfl rfl rfl ?_
  unfold tup2
  by_cases h : (formF g).2 = 0
  · obtain ⟨fo, hn⟩ := form_ok h
    generalize g.names.toNat = n at *
    rw [if_neg (by simp [h])] at hC
    generalize chkF g = c at *
    have hlt : ∀ r ∈ g.rules, r.left.toNat < n := fun r hr => by have := fo.left r hr; unfold isName at this; omega
    have hn2 : n ≤ 1000 := by have := fo.n1; omega
    have hn0 := fo.n0
    repeat' (first | refine aops_end ?_ | (refine aops_pn tok rfl rfl rfl rfl ?_ ?_ <;> intro e_) | refine aops_p tok rfl rfl rfl rfl ?_ | refine acode_it rfl ?_ | refine acode_if rfl ?_ | refine acode_seq ?_ | refine acode_region ?_ | refine acode_skip ?_ | refine then_n ?_)
    any_goals (exfalso; omega)
    refine aops_callx Try.func30 rfl rfl rfl rfl (rreach_calls hg h hn hn2 fo.st fo.left fo.sym _) rfl rfl rfl ?_
    repeat (first | refine aops_end ?_ | refine aops_p tok rfl rfl rfl rfl ?_ | refine acode_seq ?_ | refine acode_region ?_)
    refine aops_callx Try.func31 rfl rfl rfl rfl (productive_calls hg h hn hn2 fo.left fo.sym fo.len _) rfl rfl rfl ?_
    repeat (first | refine aops_end ?_ | refine aops_p tok rfl rfl rfl rfl ?_ | refine acode_seq ?_ | refine acode_region ?_)
    refine aops_callx Try.func32 rfl rfl rfl rfl (cyclic_calls (k := n - 1) hg h hn (by omega) hn2 fo.left fo.sym _) rfl rfl rfl ?_
    have hrl : (reachF g n).length = n := reachF_len hn
    have hpl : (prodF g n).length = n := by unfold prodF; rw [List.length_map]; exact (shortF_ok hlt).1
    have hcl : (cycF g n).length = n := by simp [cycF, diagT]
    have hu : ∀ i, useless g n i = (!((reachF g n).getD i false) || !((prodF g n).getD i false)) := fun _ => rfl
    generalize useless g n = us at *
    generalize reachF g n = R at *
    generalize prodF g n = P at *
    generalize cycF g n = C at *
    repeat (first | refine aops_end ?_ | refine aops_p tok rfl rfl rfl rfl ?_ | refine acode_seq ?_ | refine acode_region ?_ | refine acode_block ?_)
    refine acode_loopS (ι := Nat) (fun i => [(1, .pp (grC g)), (6, .psl n (bools R)), (7, .psl n (bools P)), (8, .psl n (bools C)), (9, .int .i64 i)]) (fun _ => M) (fun i => n - i) (fun i => i ≤ n ∧ (List.range i).any us = false) 0 ⟨Nat.zero_le _, rfl⟩ ⟨rfl, rfl, rfl, rfl, rfl, trivial⟩ rfl ?_
    rintro i ⟨hi, hno⟩
    repeat (first | refine aops_end ?_ | refine aops_p tok rfl rfl rfl rfl ?_ | refine acode_seq ?_ | refine acode_region ?_)
    refine acode_id rfl (fun e => ?_) (fun e => ?_)
    · have hil : i < n := by omega
      have hr := getD_at (l := R) (i := i) (by omega)
      have hp := getD_at (l := P) (i := i) (by omega)
      have hui := hu i
      have hyes : us i = true → c = 7 := fun hy => by
        rw [hC, if_pos (List.any_eq_true.2 ⟨i, by simpa using hil, hy⟩)]
      have hnext : us i = false → (List.range (i + 1)).any us = false := fun hy => by rw [List.range_succ, List.any_append, hno]; simp [hy]
      generalize R.getD i false = a at *
      generalize P.getD i false = b at *
      repeat (first | refine aops_p tok rfl rfl rfl rfl ?_ | refine acode_seq ?_ | refine acode_region ?_ | refine acode_block ?_ | refine acode_skip ?_ | refine then_n ?_)
      refine aops_ix tok [A.bool a] rfl rfl rfl rfl (by omega) (by omega) (by simp) (bools_at (j := i) (by simpa using hr)) rfl rfl rfl ?_
      cases a with
      | false =>
        rw [hyes (by rw [hui]; rfl)]
        repeat' (first | refine aops_end ?_ | refine aops_o rfl rfl rfl ?_ | refine aops_p tok rfl rfl rfl rfl ?_ | refine acode_it rfl ?_ | refine acode_seq ?_ | refine acode_region ?_)
        refine acode_ret ?_
        repeat (first | refine ret_then ?_ | refine ret_block ?_)
        exact ⟨_, ⟨⟨i, rfl⟩, rfl⟩, _, _, rfl, resOf_tmp rfl, resOf_tmp rfl⟩
      | true =>
        repeat' (refine aops_p tok rfl rfl rfl rfl ?_)
        refine aops_ix tok [A.bool b] rfl rfl rfl rfl (by omega) (by omega) (by simp) (bools_at (j := i) (by simpa using hp)) rfl rfl rfl ?_
        cases b with
        | false =>
          rw [hyes (by rw [hui]; rfl)]
          repeat' (first | refine aops_end ?_ | refine aops_p tok rfl rfl rfl rfl ?_ | refine acode_it rfl ?_ | refine acode_seq ?_ | refine acode_region ?_)
          refine acode_ret ?_
          repeat (first | refine ret_then ?_ | refine ret_block ?_)
          exact ⟨_, ⟨⟨i, rfl⟩, rfl⟩, _, _, rfl, resOf_tmp rfl, resOf_tmp rfl⟩
        | true =>
          repeat' (first | refine aops_end ?_ | refine aops_a tok rfl (by omega) (by omega) rfl rfl rfl ?_ | refine aops_p tok rfl rfl rfl rfl ?_ | refine acode_if rfl ?_ | refine acode_region ?_ | refine acode_skip ?_ | refine then_n ?_ | refine block_n ?_)
          exact ⟨i + 1, ⟨by omega, hnext (by rw [hui]; rfl)⟩, by omega, ⟨rfl, rfl, rfl, rfl, rfl, trivial⟩, rfl⟩
    · obtain rfl : n = i := by omega
      rw [hno, if_neg (by simp)] at hC
      refine acode_exit ?_
      repeat (first | refine exit_then ?_ | refine exit_here ?_ | refine then_n ?_)
      repeat (first | refine aops_end ?_ | refine aops_p tok rfl rfl rfl rfl ?_ | refine acode_seq ?_ | refine acode_region ?_ | refine acode_block ?_)
      refine acode_loopS (ι := Nat) (fun i => [(1, .pp (grC g)), (8, .psl n (bools C)), (10, .int .i64 i)]) (fun _ => M) (fun i => n - i) (fun i => i ≤ n ∧ (C.take i).any id = false) 0 ⟨Nat.zero_le _, by simp⟩ ⟨rfl, rfl, rfl, trivial⟩ rfl ?_
      rintro i ⟨hi, hno⟩
      repeat (first | refine aops_end ?_ | refine aops_p tok rfl rfl rfl rfl ?_ | refine acode_seq ?_ | refine acode_region ?_)
      refine acode_id rfl (fun e => ?_) (fun e => ?_)
      · have hil : i < n := by omega
        have hr := getD_at (l := C) (i := i) (by omega)
        generalize C.getD i false = a at *
        repeat (first | refine aops_p tok rfl rfl rfl rfl ?_ | refine acode_seq ?_ | refine acode_region ?_ | refine acode_block ?_ | refine acode_skip ?_ | refine then_n ?_)
        refine aops_ix tok [A.bool a] rfl rfl rfl rfl (by omega) (by omega) (by simp) (bools_at (j := i) (by simpa using hr)) rfl rfl rfl ?_
        cases a with
        | true =>
          have : C.any id = true := List.any_eq_true.2 ⟨true, List.mem_of_getElem? hr, rfl⟩
          rw [this, if_pos rfl] at hC
          rw [hC]
          repeat' (first | refine aops_end ?_ | refine aops_p tok rfl rfl rfl rfl ?_ | refine acode_it rfl ?_ | refine acode_seq ?_ | refine acode_region ?_)
          refine acode_ret ?_
          repeat (first | refine ret_then ?_ | refine ret_block ?_)
          exact ⟨_, ⟨⟨i, rfl⟩, rfl⟩, _, _, rfl, resOf_tmp rfl, resOf_tmp rfl⟩
        | false =>
          repeat' (first | refine aops_end ?_ | refine aops_a tok rfl (by omega) (by omega) rfl rfl rfl ?_ | refine aops_p tok rfl rfl rfl rfl ?_ | refine acode_if rfl ?_ | refine acode_region ?_ | refine acode_skip ?_ | refine then_n ?_ | refine block_n ?_)
          exact ⟨i + 1, ⟨by omega, by rw [List.take_add_one, hr, List.any_append, hno]; rfl⟩, by omega, ⟨rfl, rfl, rfl, trivial⟩, rfl⟩
      · obtain rfl : n = i := by omega
        rw [List.take_of_length_le (by omega)] at hno
        rw [hno, if_neg (by simp)] at hC
        rw [hC]
        refine acode_exit ?_
        repeat (first | refine exit_then ?_ | refine exit_here ?_ | refine then_n ?_)
        repeat (first | refine aops_end ?_ | refine aops_p tok rfl rfl rfl rfl ?_ | refine acode_seq ?_ | refine acode_region ?_)
        refine acode_ret ?_
        skip
        exact ⟨_, ⟨⟨-1, rfl⟩, rfl⟩, _, _, rfl, resOf_tmp rfl, resOf_tmp rfl⟩
  · rw [if_pos h] at hC
    rw [hC]
    generalize (formF g).2 = e at *
    generalize (formF g).1 = at' at *
    repeat' (first | refine aops_end ?_ | (refine aops_pn tok rfl rfl rfl rfl ?_ ?_ <;> intro e_) | refine aops_p tok rfl rfl rfl rfl ?_ | refine acode_it rfl ?_ | refine acode_if rfl ?_ | refine acode_seq ?_ | refine acode_region ?_ | refine acode_skip ?_ | refine then_n ?_)
    any_goals (exfalso; omega)
    refine acode_ret ?_
    repeat (refine ret_then ?_)
    exact ⟨_, ⟨⟨at', rfl⟩, rfl⟩, _, _, rfl, resOf_tmp rfl, resOf_tmp rfl⟩
end Go.Proofs.Ytbnhmioijeagiaa.Ab
/- Charts in plain terms. No condition. -/
set_option linter.unusedVariables false
set_option linter.unusedSimpArgs false
namespace Go.Proofs.Ytbnhmioijeagiaa.Ab
attribute [local irreducible] thenA inBlockA ACode AOps put IntKind.wrap

def tab (n : Nat) (f : Nat → Bool) : List Bool := (List.range (n + 1)).map f
theorem tab_len (n : Nat) (f : Nat → Bool) : (tab n f).length = n + 1 := by simp [tab]
theorem tab_get {n j : Nat} {f : Nat → Bool} (h : j ≤ n) : (tab n f)[j]? = some (f j) := by
  unfold tab; rw [List.getElem?_map, List.getElem?_range (by omega)]; rfl
theorem tab_getD {n j : Nat} {f : Nat → Bool} (h : j ≤ n) : (tab n f).getD j false = f j := by
  rw [List.getD_eq_getElem?_getD, tab_get h]; rfl
theorem tab_congr {n : Nat} {f h : Nat → Bool} (e : ∀ j, j ≤ n → f j = h j) : tab n f = tab n h :=
  List.map_congr_left fun j hj => e j (by have := List.mem_range.1 hj; omega)
theorem tab_set {n j : Nat} {f : Nat → Bool} {v : Bool} (h : j ≤ n) : (tab n f).set j v = tab n fun q => if q = j then v else f q := by
  apply List.ext_getElem?
  intro i
  rw [List.getElem?_set]
  by_cases hi : i ≤ n
  · rw [tab_get hi, tab_get hi]
    by_cases hij : j = i
    · subst hij; rw [if_pos rfl, if_pos (by rw [tab_len]; omega), if_pos rfl]
    · rw [if_neg hij, if_neg (fun e => hij e.symm)]
  · rw [List.getElem?_eq_none (by rw [tab_len]; omega), List.getElem?_eq_none (by rw [tab_len]; omega)]
    split
    · rw [if_neg (by rw [tab_len]; omega)]
    · rfl
theorem tab_false (n : Nat) : tab n (fun _ => false) = List.replicate (n + 1) false := by
  unfold tab; rw [List.map_const', List.length_range]
/-- Does a symbol lead from a place to another? -/
def chAt (n : Nat) (F : List (List Bool)) (a i j : Nat) : Bool := getM F (a * (n + 1) + i) j
def link (ks : List Int) (n : Nat) (F : List (List Bool)) (s : Int) (i j : Nat) : Bool :=
  if s < 0 then decide (j = i + 1) && (decide (i < n) && decide (ks.getD i 0 = -1 - s)) else decide (i ≤ j) && chAt n F s.toNat i j
def stepT (ks : List Int) (n : Nat) (F : List (List Bool)) (fr : Nat) (now : List Bool) (s : Int) (m j : Nat) : Bool :=
  (List.range m).any fun i => decide (fr ≤ i) && (now.getD i false && link ks n F s i j)
def stepB (ks : List Int) (n : Nat) (F : List (List Bool)) (fr : Nat) (now : List Bool) (s : Int) : List Bool := tab n (stepT ks n F fr now s (n + 1))
def row0 (n fr : Nat) : List Bool := tab n fun j => decide (j = fr)
def rowF (ks : List Int) (n : Nat) (F : List (List Bool)) (l : List Int) (fr : Nat) : List Bool := l.foldl (stepB ks n F fr) (row0 n fr)
theorem rowF_len (ks : List Int) (n : Nat) (F : List (List Bool)) (fr : Nat) : ∀ (l : List Int) (now : List Bool), now.length = n + 1 → (l.foldl (stepB ks n F fr) now).length = n + 1
  | [], now, h => h
  | s :: l, now, h => rowF_len ks n F fr l _ (tab_len _ _)
theorem stepT_zero {ks : List Int} {n : Nat} {F : List (List Bool)} {fr : Nat} {now : List Bool} {s : Int} {m : Nat} (h : m ≤ fr) (j : Nat) : stepT ks n F fr now s m j = false := by
  unfold stepT
  rw [List.any_eq_false]
  intro i hi
  have := List.mem_range.1 hi
  rw [decide_eq_false (by omega)]; simp
theorem stepT_succ {ks : List Int} {n : Nat} {F : List (List Bool)} {fr : Nat} {now : List Bool} {s : Int} {m : Nat} (h : fr ≤ m) (j : Nat) : stepT ks n F fr now s (m + 1) j = (stepT ks n F fr now s m j || (now.getD m false && link ks n F s m j)) := by
  unfold stepT
  rw [List.range_succ, List.any_append]; simp [h]

/-! ### how a chart lies -/
def rowsF (n : Nat) (F : List (List Bool)) (a m : Nat) : List A := (List.range m).map fun i => A.psl (n + 1) (bools (F.getD (a * (n + 1) + i) []))
def endsF (N n : Nat) (F : List (List Bool)) : List A := (List.range N).map fun a => A.psl (n + 1) (rowsF n F a (n + 1))
def rowsO (n : Nat) (bs : List Nat) (a m : Nat) : List A := (List.range m).map fun i => A.own (some (bs.getD (a * (n + 1) + i) 0)) (n + 1) (n + 1)
def endsO (N n : Nat) (bs : List Nat) : List A := (List.range N).map fun a => A.psl (n + 1) (rowsO n bs a (n + 1))
def chL (g : Gr) (ks : List Int) (x : A) : List A := [.int .i64 g.names, .int .i64 g.kinds, .int .i64 g.start, .psl g.rules.length (encs ruC g.rules), .psl g.forbid.length (encs f3C g.forbid), .psl g.rc.length (ints g.rc), .psl g.kc.length (ints g.kc), .psl ks.length (ints ks), x]
def chC (g : Gr) (ks : List Int) (N n : Nat) (F : List (List Bool)) : List A := chL g ks (.psl N (endsF N n F))
theorem range_at {m i : Nat} {f : Nat → A} (h : i < m) : [f i] <+: ((List.range m).map f).drop (i * 1) := by
  rw [Nat.mul_one, List.drop_eq_getElem_cons (by simpa using h)]
  refine ⟨((List.range m).map f).drop (i + 1), ?_⟩
  simp
theorem ends_at {N n : Nat} {F : List (List Bool)} {a : Int} (h0 : 0 ≤ a) (h : a.toNat < N) : [A.psl (n + 1) (rowsF n F a.toNat (n + 1))] <+: (endsF N n F).drop (a.toNat * 1) := range_at (f := fun a => A.psl (n + 1) (rowsF n F a (n + 1))) h
theorem rows_at {n m : Nat} {F : List (List Bool)} {a i : Nat} (h : i < m) : [A.psl (n + 1) (bools (F.getD (a * (n + 1) + i) []))] <+: (rowsF n F a m).drop (i * 1) := range_at (f := fun i => A.psl (n + 1) (bools (F.getD (a * (n + 1) + i) []))) h
theorem VwL.map' {V : List Ob} {f h : Nat → A} : ∀ (l : List Nat), (∀ i ∈ l, Vw V (f i) (h i)) → VwL V (l.map f) (l.map h)
  | [], _ => .nil
  | i :: l, e => .cons (e i (by simp)) (VwL.map' l fun j hj => e j (by simp [hj]))
theorem idx_lt {N n a i : Nat} (ha : a < N) (hi : i ≤ n) : a * (n + 1) + i < N * (n + 1) := by
  have h1 : (a + 1) * (n + 1) ≤ N * (n + 1) := Nat.mul_le_mul_right _ ha
  have h2 : (a + 1) * (n + 1) = a * (n + 1) + (n + 1) := Nat.succ_mul _ _
  omega
theorem vw_ends {V : List Ob} {N n : Nat} {bs : List Nat} {F : List (List Bool)} (hb : bs.length = N * (n + 1)) (hF : FOk (N * (n + 1)) n F) (hV : ∀ o ∈ obsZ n bs F, o ∈ V) : VwL V (endsO N n bs) (endsF N n F) := by
  refine VwL.map' _ fun a ha => .psl (VwL.map' _ fun i hi => ?_)
  have ha := List.mem_range.1 ha
  have hi := List.mem_range.1 hi
  have hlt := idx_lt (n := n) (i := i) ha (by omega)
  obtain ⟨x, hx, hxl⟩ := fok_at hF hlt
  have hbx : bs[a * (n + 1) + i]? = some (bs.getD (a * (n + 1) + i) 0) := by rw [List.getD_eq_getElem?_getD, List.getElem?_eq_getElem (by omega)]; rfl
  have hxd : F.getD (a * (n + 1) + i) [] = x := by rw [List.getD_eq_getElem?_getD, hx]; rfl
  rw [hxd]
  exact .own (sz := 1) (room := (n + 1) * 1) (hV _ (List.mem_of_getElem? (obsZ_get hbx hx))) rfl (by rw [bools_len, hxl, Nat.mul_one]) (by decide) (VwL.rfl' _)
end Go.Proofs.Ytbnhmioijeagiaa.Ab
/- Chapter 18's reference, where a row of symbols may end: the walk. No condition. -/
set_option linter.unusedVariables false
set_option linter.unusedSimpArgs false
namespace Go.Proofs.Ytbnhmioijeagiaa.Ab
attribute [local irreducible] thenA inBlockA ACode AOps put IntKind.wrap

set_option maxHeartbeats 16000000 in
theorem row_calls {g : Gr} {ks l : List Int} {N n fr : Nat} {F : List (List Bool)} (hN : g.names = N) (hks : ks.length = n) (hn : n ≤ 2000) (hk : g.kinds ≤ 1000) (hF : FOk (N * (n + 1)) n F) (hl : l.length ≤ 9223372036854775807) (hsy : ∀ s ∈ l, isSym g s) (hfr : fr ≤ n) (M : List Ob) :
    ACalls Try.prog 71 [.pp (chC g ks N n F), .psl l.length (ints l), .int .i64 fr] M (fun r M' => ∃ b, r = .own (some b) (n + 1) (n + 1) ∧ M' = ⟨some b, (n + 1) * 1, bools (rowF ks n F l fr)⟩ :: M) := by
  refine acalls_of_code 104 Try.func71 rfl rfl rfl ?_
  repeat (first | refine aops_end ?_ | refine aops_a tok rfl (by omega) (by omega) rfl rfl rfl ?_ | refine aops_p tok rfl rfl rfl rfl ?_ | refine acode_seq ?_ | refine acode_region ?_)
  refine aops_mk tok (n + 1) rfl rfl rfl rfl (by omega) rfl (by show _ * 1 ≤ _; omega) (by omega) rfl rfl rfl fun b0 => ?_
  repeat (first | refine aops_end ?_ | refine aops_p tok rfl rfl rfl rfl ?_ | refine acode_seq ?_ | refine acode_region ?_)
  refine aops_ixo tok rfl rfl rfl rfl (by omega) (by omega) rfl rfl rfl ?_
  refine aops_sto tok (bools (row0 n fr)) rfl rfl rfl rfl rfl (by show fr * 1 + 1 ≤ (zerosA [A.bool false] (n + 1)).length; rw [bools_zeros, bools_len, List.length_replicate]; omega) ?_ rfl rfl ?_
  · show (zerosA [A.bool false] (n + 1)).take (fr * 1) ++ ([A.bool true] ++ (zerosA [A.bool false] (n + 1)).drop (fr * 1 + 1)) = _
    rw [bools_zeros, bools_set (by simp; omega), ← tab_false, tab_set hfr]
    exact congrArg bools (tab_congr fun j _ => by by_cases h : j = fr <;> simp [h])
  have hfin : rowF ks n F l fr = l.foldl (stepB ks n F fr) (row0 n fr) := rfl
  have h0l : (row0 n fr).length = n + 1 := tab_len _ _
  generalize rowF ks n F l fr = fin at *
  generalize row0 n fr = o0 at *
  repeat (first | refine aops_end ?_ | refine aops_p tok rfl rfl rfl rfl ?_ | refine acode_seq ?_ | refine acode_region ?_ | refine acode_block ?_)
  refine acode_loopS (ι := Nat × Nat × List Bool) (fun p => [(0, .pp (chC g ks N n F)), (1, .psl l.length (ints l)), (2, .int .i64 fr), (7, .int .i64 n), (8, .own (some p.2.1) (n + 1) (n + 1)), (9, .int .i64 p.1)]) (fun p => ⟨some p.2.1, (n + 1) * 1, bools p.2.2⟩ :: M) (fun p => l.length - p.1) (fun p => p.1 ≤ l.length ∧ p.2.2.length = n + 1 ∧ (l.drop p.1).foldl (stepB ks n F fr) p.2.2 = fin) (0, b0, o0) ⟨Nat.zero_le _, h0l, hfin.symm⟩ ⟨rfl, rfl, rfl, by rw [← hks]; rfl, rfl, rfl, trivial⟩ rfl ?_
  clear hfin h0l
  rintro ⟨q, b1, now⟩ ⟨hq, hnl, hfold⟩
  simp only at hq hnl hfold ⊢
  repeat (first | refine aops_end ?_ | refine aops_p tok rfl rfl rfl rfl ?_ | refine acode_seq ?_ | refine acode_region ?_)
  refine acode_id rfl (fun e => ?_) (fun e => ?_)
  · have hql : q < l.length := by omega
    obtain ⟨s, hs⟩ : ∃ s, l[q]? = some s := ⟨l[q], List.getElem?_eq_getElem hql⟩
    have hds : l.drop q = s :: l.drop (q + 1) := by
      rw [List.drop_eq_getElem_cons hql]
      rw [List.getElem?_eq_getElem hql] at hs
      rw [Option.some.inj hs]
    have hss := hsy s (List.mem_of_getElem? hs)
    rw [hds, List.foldl_cons] at hfold
    repeat (first | refine aops_a tok rfl (by omega) (by omega) rfl rfl rfl ?_ | refine aops_p tok rfl rfl rfl rfl ?_ | refine acode_seq ?_ | refine acode_region ?_ | refine acode_block ?_ | refine acode_skip ?_ | refine then_n ?_)
    refine aops_mk tok (n + 1) rfl rfl rfl rfl (by omega) rfl (by show _ * 1 ≤ _; omega) (by omega) rfl rfl rfl fun b2 => ?_
    repeat (first | refine aops_end ?_ | refine aops_p tok rfl rfl rfl rfl ?_ | refine acode_seq ?_ | refine acode_region ?_ | refine acode_block ?_)
    refine acode_loopS (ι := Nat) (fun i => [(0, .pp (chC g ks N n F)), (1, .psl l.length (ints l)), (2, .int .i64 fr), (7, .int .i64 n), (8, .own (some b1) (n + 1) (n + 1)), (9, .int .i64 q), (10, .own (some b2) (n + 1) (n + 1)), (11, .int .i64 i)]) (fun i => ⟨some b2, (n + 1) * 1, bools (tab n (stepT ks n F fr now s i))⟩ :: ⟨some b1, (n + 1) * 1, bools now⟩ :: M) (fun i => n + 1 - i) (fun i => fr ≤ i ∧ i ≤ n + 1) fr ⟨Nat.le_refl _, by omega⟩ ⟨rfl, rfl, rfl, rfl, rfl, rfl, rfl, rfl, trivial⟩ (by rw [tab_congr (fun j _ => stepT_zero (Nat.le_refl fr) j), tab_false, ← bools_zeros]; rfl) ?_
    rintro i ⟨hi0, hi1⟩
    repeat (first | refine aops_end ?_ | refine aops_p tok rfl rfl rfl rfl ?_ | refine acode_seq ?_ | refine acode_region ?_)
    refine acode_id rfl (fun e1 => ?_) (fun e1 => ?_)
    · have hin : i ≤ n := by omega
      have hsu := fun j => stepT_succ (ks := ks) (n := n) (F := F) (now := now) (s := s) hi0 j
      have hat := getD_at (l := now) (i := i) (by omega)
      generalize now.getD i false = v at *
      repeat (first | refine aops_p tok rfl rfl rfl rfl ?_ | refine acode_seq ?_ | refine acode_region ?_ | refine acode_block ?_ | refine acode_skip ?_ | refine then_n ?_)
      refine aops_ixo tok rfl rfl rfl rfl (by omega) (by omega) rfl rfl rfl ?_
      refine aops_ld tok 1 (y := .bool v) rfl rfl rfl rfl (by rw [headed_eq]; exact bools_get (j := i) hat) rfl rfl rfl ?_
      cases v with
      | false =>
        have hsame : tab n (stepT ks n F fr now s (i + 1)) = tab n (stepT ks n F fr now s i) := tab_congr fun j _ => by rw [hsu]; simp
        repeat' (first | refine aops_end ?_ | refine aops_p tok rfl rfl rfl rfl ?_ | refine acode_it rfl ?_)
        refine acode_exit ?_
        repeat (first | refine exit_then ?_ | refine exit_here ?_ | refine then_n ?_)
        repeat (first | refine aops_end ?_ | refine aops_a tok rfl (by omega) (by omega) rfl rfl rfl ?_ | refine aops_p tok rfl rfl rfl rfl ?_ | refine acode_region ?_)
        exact ⟨i + 1, ⟨by omega, by omega⟩, by omega, ⟨rfl, rfl, rfl, rfl, rfl, rfl, rfl, rfl, trivial⟩, by rw [hsame]⟩
      | true =>
        repeat' (first | refine aops_end ?_ | refine aops_p tok rfl rfl rfl rfl ?_ | refine acode_if rfl ?_ | refine acode_seq ?_ | refine acode_region ?_ | refine acode_skip ?_ | refine then_n ?_)
        refine aops_ix tok [A.int .i64 s] rfl rfl rfl rfl (by omega) (by omega) (by simp) (ints_at (j := q) (by simpa using hs)) rfl rfl rfl ?_
        by_cases hs0 : s < 0
        · have hsk : isKind g s := hss.resolve_right (fun h1 => by unfold isName at h1; omega)
          obtain ⟨k0, k1⟩ := id hsk
          have hkt : i < n → ks[i]? = some (ks.getD i 0) := fun h => intD_at (l := ks) (i := i) (by omega)
          have hlk : ∀ j, link ks n F s i j = (decide (j = i + 1) && (decide (i < n) && decide (ks.getD i 0 = -1 - s))) := fun j => by unfold link; rw [if_pos hs0]
          generalize hkv : ks.getD i 0 = kv at *
          have hno : ¬ (i < n ∧ kv = -1 - s) → tab n (stepT ks n F fr now s (i + 1)) = tab n (stepT ks n F fr now s i) := fun h => tab_congr fun j _ => by
            rw [hsu, hlk]
            have : (decide (i < n) && decide (kv = -1 - s)) = false := by
              apply Bool.eq_false_iff.2; intro h2; simp only [Bool.and_eq_true, decide_eq_true_eq] at h2; exact h h2
            rw [this]; simp
          have hyes : (i < n ∧ kv = -1 - s) → (tab n (stepT ks n F fr now s i)).set (i + 1) true = tab n (stepT ks n F fr now s (i + 1)) := fun h => by
            rw [tab_set (by omega)]
            exact tab_congr fun j _ => by rw [hsu, hlk, decide_eq_true h.1, decide_eq_true h.2]; by_cases hj : j = i + 1 <;> simp [hj]
          repeat' (first | refine aops_end ?_ | refine aops_pbt tok rfl (by first | omega | decide) rfl rfl rfl ?_ | refine aops_p tok rfl rfl rfl rfl ?_ | refine acode_it rfl ?_ | refine acode_seq ?_)
          refine acode_drawT 18 mixed (by kernel_rfl) (by kernel_rfl) ?_
          repeat' (first | refine seqT_o rfl rfl rfl ?_ | (refine seqT_pd tok rfl rfl rfl rfl ?_ ?_ <;> intro e_) | refine seqT_p tok rfl rfl rfl rfl ?_)
          · have hin2 : i < n := by omega
            refine seqT_ix tok [A.int .i64 kv] rfl rfl rfl rfl (by omega) (by omega) (by simp) (ints_at (j := i) (by simpa using hkt hin2)) rfl rfl rfl ?_
            repeat (refine seqT_p tok rfl rfl rfl rfl ?_)
            refine seqT_ix tok [A.int .i64 s] rfl rfl rfl rfl (by omega) (by omega) (by simp) (ints_at (j := q) (by simpa using hs)) rfl rfl rfl ?_
            repeat' (first | refine seqT_a tok rfl (by omega) (by omega) rfl rfl rfl ?_ | (refine seqT_pd tok rfl rfl rfl rfl ?_ ?_ <;> intro e_) | refine seqT_p tok rfl rfl rfl rfl ?_)
            · refine SeqT.done ?_
              repeat' (first | refine aops_end ?_ | refine aops_a tok rfl (by omega) (by omega) rfl rfl rfl ?_ | refine aops_p tok rfl rfl rfl rfl ?_ | refine acode_it rfl ?_ | refine acode_region ?_)
              refine aops_ixo tok rfl rfl rfl rfl (by omega) (by omega) rfl rfl rfl ?_
              refine aops_sto tok (bools (tab n (stepT ks n F fr now s (i + 1)))) rfl rfl rfl rfl rfl (by rw [bools_len, tab_len]; show (i + 1 : Int).toNat * 1 + 1 ≤ _; omega) (by rw [← hyes ⟨hin2, e_⟩]; exact bools_set (j := i + 1) (by rw [tab_len]; omega) true) rfl rfl ?_
              repeat (refine aops_end ?_)
              refine acode_exit ?_
              repeat (first | refine exit_then ?_ | refine exit_here ?_ | refine then_n ?_)
              repeat (first | refine aops_end ?_ | refine aops_a tok rfl (by omega) (by omega) rfl rfl rfl ?_ | refine aops_p tok rfl rfl rfl rfl ?_ | refine acode_region ?_)
              exact ⟨i + 1, ⟨by omega, by omega⟩, by omega, ⟨rfl, rfl, rfl, rfl, rfl, rfl, rfl, rfl, trivial⟩, rfl⟩
            · refine SeqT.done ?_
              repeat' (first | refine aops_end ?_ | refine acode_if rfl ?_ | refine acode_skip ?_ | refine then_n ?_)
              refine acode_exit ?_
              repeat (first | refine exit_then ?_ | refine exit_here ?_ | refine then_n ?_)
              repeat (first | refine aops_end ?_ | refine aops_a tok rfl (by omega) (by omega) rfl rfl rfl ?_ | refine aops_p tok rfl rfl rfl rfl ?_ | refine acode_region ?_)
              exact ⟨i + 1, ⟨by omega, by omega⟩, by omega, ⟨rfl, rfl, rfl, rfl, rfl, rfl, rfl, rfl, trivial⟩, by rw [hno (fun h => e_ h.2)]⟩
          · refine SeqT.done ?_
            repeat' (first | refine aops_end ?_ | refine acode_if rfl ?_ | refine acode_skip ?_ | refine then_n ?_)
            refine acode_exit ?_
            repeat (first | refine exit_then ?_ | refine exit_here ?_ | refine then_n ?_)
            repeat (first | refine aops_end ?_ | refine aops_a tok rfl (by omega) (by omega) rfl rfl rfl ?_ | refine aops_p tok rfl rfl rfl rfl ?_ | refine acode_region ?_)
            exact ⟨i + 1, ⟨by omega, by omega⟩, by omega, ⟨rfl, rfl, rfl, rfl, rfl, rfl, rfl, rfl, trivial⟩, by rw [hno (fun h => by omega)]⟩
        · have hname : isName g s := hss.resolve_left (fun h1 => by unfold isKind at h1; omega)
          obtain ⟨n0, n1⟩ := id hname
          have hsN : s.toNat < N := by omega
          have hlk : ∀ j, link ks n F s i j = (decide (i ≤ j) && chAt n F s.toNat i j) := fun j => by unfold link; rw [if_neg hs0]
          have hlt := idx_lt (n := n) hsN hin
          obtain ⟨x, hx, hxl⟩ := fok_at hF hlt
          have hxd : F.getD (s.toNat * (n + 1) + i) [] = x := by rw [List.getD_eq_getElem?_getD, hx]; rfl
          have hini : tab n (stepT ks n F fr now s i) = tab n fun u => stepT ks n F fr now s i u || (decide (i ≤ u ∧ u < i) && chAt n F s.toNat i u) := tab_congr fun u _ => by rw [decide_eq_false (show ¬ (i ≤ u ∧ u < i) by omega), Bool.false_and, Bool.or_false]
          repeat' (first | refine aops_end ?_ | refine aops_pbf tok rfl (by first | omega | decide) rfl rfl rfl ?_ | refine aops_p tok rfl rfl rfl rfl ?_ | refine acode_if rfl ?_ | refine acode_seq ?_ | refine acode_region ?_ | refine acode_block ?_ | refine acode_skip ?_ | refine then_n ?_)
          refine acode_loopS (ι := Nat) (fun j => [(0, .pp (chC g ks N n F)), (1, .psl l.length (ints l)), (2, .int .i64 fr), (7, .int .i64 n), (8, .own (some b1) (n + 1) (n + 1)), (9, .int .i64 q), (10, .own (some b2) (n + 1) (n + 1)), (11, .int .i64 i), (12, .int .i64 j)]) (fun j => ⟨some b2, (n + 1) * 1, bools (tab n fun u => stepT ks n F fr now s i u || (decide (i ≤ u ∧ u < j) && chAt n F s.toNat i u))⟩ :: ⟨some b1, (n + 1) * 1, bools now⟩ :: M) (fun j => n + 1 - j) (fun j => i ≤ j ∧ j ≤ n + 1) i ⟨Nat.le_refl _, by omega⟩ ⟨rfl, rfl, rfl, rfl, rfl, rfl, rfl, rfl, rfl, trivial⟩ (by rw [hini]) ?_
          rintro j ⟨hj0, hj1⟩
          repeat (first | refine aops_end ?_ | refine aops_p tok rfl rfl rfl rfl ?_ | refine acode_seq ?_ | refine acode_region ?_)
          refine acode_id rfl (fun e2 => ?_) (fun e2 => ?_)
          · have hjn : j ≤ n := by omega
            obtain ⟨c, hc⟩ : ∃ c, x[j]? = some c := ⟨x[j]'(by omega), List.getElem?_eq_getElem (by omega)⟩
            have hch : chAt n F s.toNat i j = c := getM_of hx hc
            have hcur : (tab n fun u => stepT ks n F fr now s i u || (decide (i ≤ u ∧ u < j) && chAt n F s.toNat i u))[j]? = some (stepT ks n F fr now s i j) := by
              rw [tab_get hjn, decide_eq_false (show ¬ (i ≤ j ∧ j < j) by omega), Bool.false_and, Bool.or_false]
            have hset : (tab n fun u => stepT ks n F fr now s i u || (decide (i ≤ u ∧ u < j) && chAt n F s.toNat i u)).set j (stepT ks n F fr now s i j || c) = tab n fun u => stepT ks n F fr now s i u || (decide (i ≤ u ∧ u < j + 1) && chAt n F s.toNat i u) := by
              rw [tab_set hjn]
              exact tab_congr fun u _ => by
                by_cases hu : u = j
                · subst hu; rw [if_pos rfl, decide_eq_true (show i ≤ u ∧ u < u + 1 by omega), hch, Bool.true_and]
                · rw [if_neg hu, show decide (i ≤ u ∧ u < j + 1) = decide (i ≤ u ∧ u < j) by congr 1; apply propext; omega]
            generalize hT : stepT ks n F fr now s i j = a at *
            generalize hU : (tab n fun u => stepT ks n F fr now s i u || (decide (i ≤ u ∧ u < j) && chAt n F s.toNat i u)) = U at *
            have hUl : U.length = n + 1 := by rw [← hU]; exact tab_len _ _
            repeat (first | refine acode_seq ?_ | refine acode_block ?_ | refine acode_skip ?_ | refine then_n ?_)
            refine acode_drawT 24 mixed (by kernel_rfl) (by kernel_rfl) ?_
            repeat (refine seqT_p tok rfl rfl rfl rfl ?_)
            refine seqT_ixo tok rfl rfl rfl rfl (by omega) (by omega) rfl rfl rfl ?_
            refine seqT_ld tok 0 (y := .bool a) rfl rfl rfl rfl (by rw [headed_eq]; exact bools_get (j := j) hcur) rfl rfl rfl ?_
            cases a with
            | true =>
              repeat (first | refine seqT_o rfl rfl rfl ?_ | refine seqT_p tok rfl rfl rfl rfl ?_)
              refine SeqT.done ?_
              refine aops_ixo tok rfl rfl rfl rfl (by omega) (by omega) rfl rfl rfl ?_
              refine aops_sto tok _ rfl rfl rfl rfl rfl (by rw [bools_len, hUl]; show j * 1 + 1 ≤ _; omega) (bools_set (j := j) (by omega) true) rfl rfl ?_
              repeat (first | refine aops_end ?_ | refine aops_endb ?_ | refine aops_a tok rfl (by omega) (by omega) rfl rfl rfl ?_ | refine aops_p tok rfl rfl rfl rfl ?_ | refine acode_region ?_ | refine then_n ?_)
              exact ⟨j + 1, ⟨by omega, by omega⟩, by omega, ⟨rfl, rfl, rfl, rfl, rfl, rfl, rfl, rfl, rfl, trivial⟩, by rw [← hset]; rfl⟩
            | false =>
              repeat (refine seqT_p tok rfl rfl rfl rfl ?_)
              refine seqT_ix tok [A.int .i64 s] rfl rfl rfl rfl (by omega) (by omega) (by simp) (ints_at (j := q) (by simpa using hs)) rfl rfl rfl ?_
              repeat (refine seqT_p tok rfl rfl rfl rfl ?_)
              refine seqT_ix tok [A.psl (n + 1) (rowsF n F s.toNat (n + 1))] rfl rfl rfl rfl n0 (by omega) (by simp) (ends_at n0 hsN) rfl rfl rfl ?_
              repeat (refine seqT_p tok rfl rfl rfl rfl ?_)
              refine seqT_ix tok [A.psl (n + 1) (bools x)] rfl rfl rfl rfl (by omega) (by omega) (by simp) (by rw [← hxd]; exact rows_at (i := i) (by omega)) rfl rfl rfl ?_
              repeat (refine seqT_p tok rfl rfl rfl rfl ?_)
              refine seqT_ix tok [A.bool c] rfl rfl rfl rfl (by omega) (by omega) (by simp) (bools_at (j := j) (by simpa using hc)) rfl rfl rfl ?_
              repeat (refine seqT_p tok rfl rfl rfl rfl ?_)
              refine SeqT.done ?_
              refine aops_ixo tok rfl rfl rfl rfl (by omega) (by omega) rfl rfl rfl ?_
              refine aops_sto tok _ rfl rfl rfl rfl rfl (by rw [bools_len, hUl]; show j * 1 + 1 ≤ _; omega) (bools_set (j := j) (by omega) c) rfl rfl ?_
              repeat (first | refine aops_end ?_ | refine aops_endb ?_ | refine aops_a tok rfl (by omega) (by omega) rfl rfl rfl ?_ | refine aops_p tok rfl rfl rfl rfl ?_ | refine acode_region ?_ | refine then_n ?_)
              exact ⟨j + 1, ⟨by omega, by omega⟩, by omega, ⟨rfl, rfl, rfl, rfl, rfl, rfl, rfl, rfl, rfl, trivial⟩, by rw [← hset]; rfl⟩
          · have hje : j = n + 1 := by omega
            subst hje
            have hend : (tab n fun u => stepT ks n F fr now s i u || (decide (i ≤ u ∧ u < n + 1) && chAt n F s.toNat i u)) = tab n (stepT ks n F fr now s (i + 1)) := tab_congr fun u hu => by
              rw [hsu, hlk, Bool.true_and, show decide (i ≤ u ∧ u < n + 1) = decide (i ≤ u) by congr 1; apply propext; omega]
            rw [hend]
            refine acode_exit ?_
            repeat (first | refine exit_then ?_ | refine exit_here ?_ | refine then_n ?_ | refine block_n ?_)
            repeat (first | refine aops_end ?_ | refine aops_a tok rfl (by omega) (by omega) rfl rfl rfl ?_ | refine aops_p tok rfl rfl rfl rfl ?_ | refine acode_region ?_)
            exact ⟨i + 1, ⟨by omega, by omega⟩, by omega, ⟨rfl, rfl, rfl, rfl, rfl, rfl, rfl, rfl, trivial⟩, rfl⟩
    · have hie : i = n + 1 := by omega
      subst hie
      refine acode_exit ?_
      repeat (first | refine exit_then ?_ | refine exit_here ?_ | refine then_n ?_)
      refine acode_drop 1 ?_
      repeat (first | refine aops_end ?_ | refine aops_endb ?_ | refine aops_a tok rfl (by omega) (by omega) rfl rfl rfl ?_ | refine aops_p tok rfl rfl rfl rfl ?_ | refine acode_region ?_ | refine then_n ?_)
      exact ⟨(q + 1, b2, stepB ks n F fr now s), ⟨by simp; omega, tab_len _ _, hfold⟩, by simp; omega, ⟨rfl, rfl, rfl, rfl, rfl, rfl, trivial⟩, rfl⟩
  · obtain rfl : q = l.length := by omega
    rw [List.drop_length, List.foldl_nil] at hfold
    subst hfold
    refine acode_exit ?_
    repeat (first | refine exit_then ?_ | refine exit_here ?_ | refine then_n ?_)
    repeat (first | refine aops_end ?_ | refine aops_p tok rfl rfl rfl rfl ?_ | refine acode_seq ?_ | refine acode_region ?_)
    refine acode_ret ?_
    skip
    exact ⟨_, ⟨b1, rfl, rfl⟩, resOf_tmp rfl⟩
end Go.Proofs.Ytbnhmioijeagiaa.Ab
/- Sets joined: pulled out of Set2, Set4, Set9, SetB (printed by genchk.py). No condition. -/
set_option linter.unusedVariables false
set_option linter.unusedSimpArgs false
namespace Go.Proofs.Ytbnhmioijeagiaa.Ab
attribute [local irreducible] thenA inBlockA ACode AOps put IntKind.wrap

def orL (o f : List Bool) : List Bool := (List.range o.length).map fun i => o.getD i false || f.getD i false
def cameL (o f : List Bool) : Bool := (List.range o.length).any fun i => f.getD i false && !o.getD i false
def orT (o f : List Bool) (q : Nat) : List Bool := (List.range o.length).map fun i => if i < q then o.getD i false || f.getD i false else o.getD i false
def cameT (o f : List Bool) (q : Nat) : Bool := (List.range q).any fun i => f.getD i false && !o.getD i false
theorem orT_len (o f : List Bool) (q : Nat) : (orT o f q).length = o.length := by simp [orT]
theorem orT_zero (o f : List Bool) : orT o f 0 = o := by
  apply List.ext_getElem?
  intro i
  by_cases h : i < o.length
  · simp [orT, List.getElem?_range h, List.getD_eq_getElem?_getD, List.getElem?_eq_getElem h]
  · rw [List.getElem?_eq_none (by simp [orT]; omega), List.getElem?_eq_none (by omega)]
theorem orT_all (o f : List Bool) : orT o f o.length = orL o f := by
  apply List.map_congr_left
  intro i hi
  rw [if_pos (by simpa using hi)]
theorem orT_get {o f : List Bool} {q i : Nat} (h : i < o.length) : (orT o f q)[i]? = some (if i < q then o.getD i false || f.getD i false else o.getD i false) := by simp [orT, List.getElem?_range h]
theorem orT_succ {o f : List Bool} {q : Nat} (h : q < o.length) : (orT o f q).set q (o.getD q false || f.getD q false) = orT o f (q + 1) := by
  apply List.ext_getElem?
  intro i
  rw [List.getElem?_set]
  by_cases hi : i < o.length
  · rw [orT_get hi, orT_get hi]
    by_cases e : q = i
    · subst e; rw [if_pos rfl, if_pos (by rw [orT_len]; exact h), if_pos (by omega)]
    · rw [if_neg e]
      by_cases h2 : i < q
      · rw [if_pos h2, if_pos (by omega)]
      · rw [if_neg h2, if_neg (by omega)]
  · have e : q ≠ i := by omega
    rw [if_neg e, List.getElem?_eq_none (by rw [orT_len]; omega), List.getElem?_eq_none (by rw [orT_len]; omega)]
theorem cameT_succ (o f : List Bool) (q : Nat) : cameT o f (q + 1) = (cameT o f q || (f.getD q false && !o.getD q false)) := by
  simp [cameT, List.range_succ]
theorem orL_len (o f : List Bool) : (orL o f).length = o.length := by simp [orL]
theorem cnt_le : ∀ (a b : List Bool), a.length = b.length → (∀ i, a.getD i true = true → b.getD i true = true) → b.count false ≤ a.count false ∧ ((∃ i, a.getD i true = false ∧ b.getD i true = true) → b.count false < a.count false)
  | [], [], _, _ => ⟨Nat.le_refl _, fun ⟨i, h, _⟩ => by simp at h⟩
  | [], _ :: _, h, _ => by simp at h
  | _ :: _, [], h, _ => by simp at h
  | x :: a, y :: b, hl, h => by
    have h0 := h 0
    simp only [List.getD_cons_zero] at h0
    obtain ⟨i1, i2⟩ := cnt_le a b (by simpa using hl) (fun i => by simpa only [List.getD_cons_succ] using h (i + 1))
    constructor
    · cases x <;> cases y <;> simp_all <;> omega
    · rintro ⟨i, g1, g2⟩
      cases i with
      | zero =>
        simp only [List.getD_cons_zero] at g1 g2
        subst g1; subst g2
        simp; omega
      | succ i =>
        simp only [List.getD_cons_succ] at g1 g2
        have := i2 ⟨i, g1, g2⟩
        cases x <;> cases y <;> simp_all <;> omega
theorem orL_get {o f : List Bool} {i : Nat} (h : i < o.length) : (orL o f)[i]? = some (o.getD i false || f.getD i false) := by simp [orL, List.getElem?_range h]
theorem orL_getD {o f : List Bool} {i : Nat} (h : i < o.length) (d : Bool) : (orL o f).getD i d = (o.getD i false || f.getD i false) := by
  rw [List.getD_eq_getElem?_getD, orL_get h]; rfl
theorem getD_lt {o : List Bool} {i : Nat} (h : i < o.length) (d e : Bool) : o.getD i d = o.getD i e := by
  rw [List.getD_eq_getElem?_getD, List.getD_eq_getElem?_getD, List.getElem?_eq_getElem h]; rfl
theorem orL_cnt (o f : List Bool) : (orL o f).count false ≤ o.count false ∧ (cameL o f = true → (orL o f).count false < o.count false) := by
  obtain ⟨h1, h2⟩ := cnt_le o (orL o f) (by rw [orL_len]) (fun i h => by
    by_cases hi : i < o.length
    · rw [orL_getD hi, getD_lt hi false true, h]; rfl
    · rw [List.getD_eq_getElem?_getD, List.getElem?_eq_none (by rw [orL_len]; omega)]; rfl)
  refine ⟨h1, fun h => h2 ?_⟩
  obtain ⟨i, hi, hx⟩ := List.any_eq_true.1 h
  have hi' : i < o.length := by simpa using hi
  simp only [Bool.and_eq_true, Bool.not_eq_true'] at hx
  exact ⟨i, by rw [getD_lt hi' true false]; exact hx.2, by rw [orL_getD hi', hx.1]; simp⟩
def totF (F : List (List Bool)) : Nat := (F.map fun x => x.count false).sum
theorem totF_set : ∀ (F : List (List Bool)) (s : Nat) (x y : List Bool), F[s]? = some x → totF (F.set s y) + x.count false = totF F + y.count false
  | [], s, x, y, h => by simp at h
  | z :: F, 0, x, y, h => by
    simp at h; subst h
    simp only [totF, List.set_cons_zero, List.map_cons, List.sum_cons]; omega
  | z :: F, s + 1, x, y, h => by
    have := totF_set F s x y (by simpa using h)
    simp only [totF, List.set_cons_succ, List.map_cons, List.sum_cons] at this ⊢; omega
def joinS (s : Nat) (f : List Bool) (x : List (List Bool) × Bool) : List (List Bool) × Bool := (x.1.set s (orL (x.1.getD s []) f), cameL (x.1.getD s []) f || x.2)
theorem joinS_len (s : Nat) (f : List Bool) (x : List (List Bool) × Bool) : (joinS s f x).1.length = x.1.length := by simp [joinS]
theorem joinS_all {m : Nat} (s : Nat) (f : List Bool) (x : List (List Bool) × Bool) (h : ∀ y ∈ x.1, y.length = m) : ∀ y ∈ (joinS s f x).1, y.length = m := by
  intro y hy
  by_cases hs : s < x.1.length
  · rcases List.mem_or_eq_of_mem_set hy with h1 | rfl
    · exact h y h1
    · rw [orL_len, List.getD_eq_getElem?_getD, List.getElem?_eq_getElem hs]; exact h _ (List.getElem_mem hs)
  · simp only [joinS] at hy
    rw [List.set_eq_of_length_le (by omega)] at hy
    exact h y hy
theorem joinS_cnt (s : Nat) (f : List Bool) (x : List (List Bool) × Bool) (hs : s < x.1.length) : totF (joinS s f x).1 ≤ totF x.1 ∧ ((joinS s f x).2 = true → x.2 = true ∨ totF (joinS s f x).1 < totF x.1) := by
  have hg : x.1[s]? = some (x.1.getD s []) := by rw [List.getD_eq_getElem?_getD, List.getElem?_eq_getElem hs]; rfl
  have h1 := totF_set x.1 s _ (orL (x.1.getD s []) f) hg
  obtain ⟨h2, h3⟩ := orL_cnt (x.1.getD s []) f
  simp only [joinS]
  refine ⟨by omega, fun h => ?_⟩
  rcases Bool.or_eq_true_iff.1 h with h4 | h4
  · exact .inr (by have := h3 h4; omega)
  · exact .inl h4
theorem totF_zero (n k : Nat) : totF (zeroF n k) = n * (k + 1) := by
  induction n with
  | zero => simp [zeroF, totF]
  | succ n ih =>
    have : zeroF (n + 1) k = zeroB k :: zeroF n k := rfl
    rw [this]
    simp only [totF, List.map_cons, List.sum_cons] at ih ⊢
    rw [ih]
    simp only [zeroB, List.count_replicate_self]
    rw [Nat.add_mul]; omega
theorem acalls_mk0 {P : Program} {f : FuncId} {xs ys : List A} {V : List Ob} {k : Nat} {o : List Bool} {x : Nat → A} (hx : ∀ b, looseA (x b) = true) (hv : VwL V xs ys) (hc : ACalls P f ys [] (fun r M' => ∃ b, r = x b ∧ M' = ⟨some b, (k + 1) * 1, bools o⟩ :: [])) :
    ACalls P f xs V (fun r M' => ∃ b, r = x b ∧ M' = ⟨some b, (k + 1) * 1, bools o⟩ :: V) := by
  refine (acalls_part (W := []) hv hc ?_).mono ?_
  · rintro r M' ⟨b, rfl, rfl⟩
    refine ⟨hx b, fun o ho => ?_⟩
    simp at ho; subst ho; exact looseL_bools _
  · rintro r M' ⟨M1, ⟨b, rfl, rfl⟩, rfl⟩
    exact ⟨b, rfl, rfl⟩
theorem orT_same {o f : List Bool} {q : Nat} (h : q < o.length) (hc : f.getD q false = false ∨ o.getD q false = true) : orT o f (q + 1) = orT o f q := by
  rw [← orT_succ h]
  apply set_self
  rw [orT_get h, if_neg (by omega)]
  rcases hc with h1 | h1
  · rw [h1, Bool.or_false]
  · rw [h1, Bool.true_or]
theorem joinS_gw {n k : Nat} {s : Nat} (f : List Bool) (x : List (List Bool) × Bool) (hs : s < n) : Gw (FOk n k) totF x (joinS s f x) := fun h =>
  ⟨⟨by rw [joinS_len]; exact h.1, joinS_all _ _ _ h.2⟩, joinS_cnt s f x (by rw [h.1]; exact hs)⟩
end Go.Proofs.Ytbnhmioijeagiaa.Ab
/- Chapter 18's reference, NewChart: the walk. No condition. -/
set_option linter.unusedVariables false
set_option linter.unusedSimpArgs false
namespace Go.Proofs.Ytbnhmioijeagiaa.Ab
attribute [local irreducible] thenA inBlockA ACode AOps put IntKind.wrap

section
variable {P : Program} {N : Nat} {Q : Exit → St → Prop} {E : Env} {M : List Ob}
/-- The second object, a slice that a field of the first one holds, is frozen there (as in Spa7). -/
theorem acode_pubFld {c : Code} (i : Nat) {b room r2 n cap sz : Nat} {ob : Option Nat} {cs ds cs' : List A} (hc : cs[i]? = some (.own ob n cap)) (hr : r2 = cap * sz) (hcs : ds.length = n * sz) (hsz : 0 < sz) (he : cs.set i (.psl n ds) = cs')
    (next : ACode P N c Q ⟨E, ⟨some b, room, cs'⟩ :: M⟩) : ACode P N c Q ⟨E, ⟨some b, room, cs⟩ :: ⟨ob, r2, ds⟩ :: M⟩ := by
  subst he
  refine acode_weaken (st' := ⟨E, ⟨some b, room, cs.set i (.psl n ds)⟩ :: M⟩) (fun K G a w hi => ?_) next
  obtain ⟨G', hle, hok, hb, hn, _⟩ := ok_publish hi.ok (k := 1) rfl
  refine ⟨G', ?_, hi.sz, hi.df, fun s => (hi.ev s).mono hle⟩
  have hok' : Ok K G' (⟨some b, room, cs⟩ :: M) w := hok
  refine hok'.cast (fun o' ho => ?_) (by simpa [List.filterMap_cons] using hok'.nd)
  simp only [List.mem_cons] at ho
  rcases ho with rfl | ho
  · refine .inr ⟨⟨some b, room, cs⟩, List.mem_cons_self .., rfl, rfl, fun vs hv => repL_set_same hv hc (fun v hr' => ?_), fun h => by cases h⟩
    cases ob with
    | none =>
      obtain ⟨hv, rfl, rfl⟩ := hr'
      obtain ⟨rfl, _⟩ := hn rfl
      exact ⟨none, 0, hv, Nat.le_refl _, by simp, [], rfl, .inl rfl⟩
    | some b2 =>
      simp only [Rep] at hr'
      obtain ⟨vs, hl, hat, hle'⟩ := hb b2 rfl
      have hlen := hl.length
      exact ⟨_, cap, hr', Nat.le_of_mul_le_mul_right (show n * sz ≤ cap * sz by omega) hsz, by simp, vs, hl, .inr ⟨b2, 0, rfl, hat⟩⟩
  · exact .inr ⟨o', by simp [ho], rfl, rfl, fun vs hv => hv, fun hb => (hok'.vn o' (by simp [ho]) hb).1⟩
end

def fromT (n i : Nat) (to : List Bool) : List Bool := tab n fun j => decide (i ≤ j) && to.getD j false
def chS (ks : List Int) (n : Nat) (r : Ru) (x : List (List Bool) × Bool) (i : Nat) : List (List Bool) × Bool := joinS (r.left.toNat * (n + 1) + i) (fromT n i (rowF ks n x.1 r.right i)) x
def chR (ks : List Int) (n : Nat) (x : List (List Bool) × Bool) (r : Ru) : List (List Bool) × Bool := ((List.range (n + 1)).reverse).foldl (chS ks n r) x
def chI (g : Gr) (ks : List Int) (n : Nat) (F : List (List Bool)) : List (List Bool) × Bool := g.rules.foldl (chR ks n) (F, false)
def chF (g : Gr) (ks : List Int) (N n : Nat) : List (List Bool) := fixI (chI g ks n) (N * (n + 1) * (n + 1) + 1) (zeroF (N * (n + 1)) n)
theorem rev_drop {n m : Nat} (h : m ≤ n) : ((List.range (n + 1)).reverse).drop m = (n - m) :: ((List.range (n + 1)).reverse).drop (m + 1) := by
  rw [List.drop_eq_getElem_cons (by simp; omega), List.getElem_reverse]; simp
theorem orT_below {x f : List Bool} {i : Nat} (h : ∀ u, u < i → f.getD u false = false) (hi : i ≤ x.length) : orT x f i = x ∧ cameT x f i = false := by
  induction i with
  | zero => exact ⟨orT_zero x f, rfl⟩
  | succ i ih =>
    obtain ⟨h1, h2⟩ := ih (fun u hu => h u (by omega)) (by omega)
    have hf := h i (by omega)
    exact ⟨by rw [orT_same (by omega) (.inl hf), h1], by rw [cameT_succ, h2, hf]; rfl⟩
theorem chS_gw {ks : List Int} {N n : Nat} (r : Ru) (hr : r.left.toNat < N) (x : List (List Bool) × Bool) (i : Nat) (hi : i ≤ n) : Gw (FOk (N * (n + 1)) n) totF x (chS ks n r x i) :=
  joinS_gw _ _ (idx_lt hr hi)
theorem chR_gw {ks : List Int} {N n : Nat} (r : Ru) (hr : r.left.toNat < N) (x : List (List Bool) × Bool) : Gw (FOk (N * (n + 1)) n) totF x (chR ks n x r) :=
  gw_fold _ _ fun i hi x => chS_gw r hr x i (by have := List.mem_reverse.1 hi; have := List.mem_range.1 this; omega)
theorem chI_gw {g : Gr} {ks : List Int} {N n : Nat} (hw : ∀ r ∈ g.rules, r.left.toNat < N) (F : List (List Bool)) : Gw (FOk (N * (n + 1)) n) totF (F, false) (chI g ks n F) :=
  gw_fold g.rules _ fun r hr x => chR_gw r (hw r hr) x
theorem zeroF_ok (N n : Nat) : FOk N n (zeroF N n) := ⟨zeroF_len N n, zeroF_all⟩
theorem chF_ok {g : Gr} {ks : List Int} {N n : Nat} (hw : ∀ r ∈ g.rules, r.left.toNat < N) : FOk (N * (n + 1)) n (chF g ks N n) :=
  fixI_ok (p := FOk (N * (n + 1)) n) (fun x h => (chI_gw hw x h).1) _ _ (zeroF_ok _ _)
theorem rowsO_app {n a m : Nat} {bs cs : List Nat} (h : a * (n + 1) + m ≤ bs.length) : rowsO n (bs ++ cs) a m = rowsO n bs a m :=
  List.map_congr_left fun i hi => by
    have := List.mem_range.1 hi
    rw [List.getD_eq_getElem?_getD, List.getElem?_append_left (by omega), ← List.getD_eq_getElem?_getD]
theorem rowsO_snoc {n a m b : Nat} {bs : List Nat} (h : bs.length = a * (n + 1) + m) : rowsO n (bs ++ [b]) a (m + 1) = rowsO n bs a m ++ [A.own (some b) (n + 1) (n + 1)] := by
  have h1 : rowsO n (bs ++ [b]) a (m + 1) = rowsO n (bs ++ [b]) a m ++ [A.own (some ((bs ++ [b]).getD (a * (n + 1) + m) 0)) (n + 1) (n + 1)] := by unfold rowsO; rw [List.range_succ, List.map_append]; rfl
  rw [h1, rowsO_app (by omega), ← h, List.getD_eq_getElem?_getD, List.getElem?_append_right (Nat.le_refl _), Nat.sub_self]; rfl
theorem endsO_app {N n : Nat} {bs cs : List Nat} (h : N * (n + 1) ≤ bs.length) : endsO N n (bs ++ cs) = endsO N n bs :=
  List.map_congr_left fun a ha => by
    have := List.mem_range.1 ha
    have h2 := idx_lt (n := n) (i := n) this (Nat.le_refl _)
    rw [rowsO_app (by omega)]
theorem endsO_snoc (N n : Nat) (bs : List Nat) : endsO (N + 1) n bs = endsO N n bs ++ [A.psl (n + 1) (rowsO n bs N (n + 1))] := by
  unfold endsO; rw [List.range_succ, List.map_append]; rfl
theorem rowsO_len (n : Nat) (bs : List Nat) (a m : Nat) : (rowsO n bs a m).length = m := by simp [rowsO]
theorem endsO_len (N n : Nat) (bs : List Nat) : (endsO N n bs).length = N := by simp [endsO]
theorem endsO_at {N n : Nat} {bs : List Nat} {a : Int} (h0 : 0 ≤ a) (h : a.toNat < N) : [A.psl (n + 1) (rowsO n bs a.toNat (n + 1))] <+: (endsO N n bs).drop (a.toNat * 1) := range_at (f := fun a => A.psl (n + 1) (rowsO n bs a (n + 1))) h
theorem rowsO_at {n m : Nat} {bs : List Nat} {a i : Nat} (h : i < m) : [A.own (some (bs.getD (a * (n + 1) + i) 0)) (n + 1) (n + 1)] <+: (rowsO n bs a m).drop (i * 1) := range_at (f := fun i => A.own (some (bs.getD (a * (n + 1) + i) 0)) (n + 1) (n + 1)) h
theorem zeroF_snoc (m n : Nat) : zeroF (m + 1) n = zeroF m n ++ [zeroB n] := List.replicate_succ'
theorem obsZ_snoc {n b m : Nat} {bs : List Nat} (h : bs.length = m) : obsZ n (bs ++ [b]) (zeroF (m + 1) n) = obsZ n bs (zeroF m n) ++ [⟨some b, (n + 1) * 1, bools (zeroB n)⟩] := by
  rw [zeroF_snoc, obsZ_app (by rw [h, zeroF_len])]; rfl
theorem vw_chart {V : List Ob} {g : Gr} {ks : List Int} {N n : Nat} {bs : List Nat} {F : List (List Bool)} (hb : bs.length = N * (n + 1)) (hF : FOk (N * (n + 1)) n F) (hV : ∀ o ∈ obsZ n bs F, o ∈ V) : VwL V (chL g ks (.psl N (endsO N n bs))) (chC g ks N n F) :=
  .cons (.refl _) (.cons (.refl _) (.cons (.refl _) (.cons (.refl _) (.cons (.refl _) (.cons (.refl _) (.cons (.refl _) (.cons (.refl _) (.cons (.psl (vw_ends hb hF hV)) .nil))))))))

set_option maxHeartbeats 16000000 in
theorem newChart_calls {g : Gr} {ks : List Int} {N n : Nat} (hg : GrOk g) (h : chkF g = 0) (hN : g.names = N) (hks : ks.length = n) (hn : n ≤ 2000) (M : List Ob) :
    ACalls Try.prog 33 [grA g, .psl ks.length (ints ks)] M (fun r M' => r = .tup [.pp (chC g ks N n (chF g ks N n)), .int .i64 0] ∧ M' = M) := by
  have hform : (formF g).2 = 0 := by
    unfold chkF at h
    split at h
    · rename_i h1; exact absurd h h1
    · rename_i h1; exact Classical.not_not.1 h1
  obtain ⟨fo, hN'⟩ := form_ok hform
  have hNN : g.names.toNat = N := by omega
  rw [hNN] at fo
  clear hN' hNN
  have hN0 := fo.n0
  have hN1 := fo.n1
  have hlt : ∀ r ∈ g.rules, r.left.toNat < N := fun r hr => by have := fo.left r hr; unfold isName at this; omega
  have hrl := fo.rl
  have hbd : ∀ a, a ≤ N → a * (n + 1) ≤ N * (n + 1) := fun a ha => Nat.mul_le_mul_right _ ha
  refine acalls_of_code 122 Try.func33 rfl rfl rfl ?_
  repeat (first | refine acode_seq ?_ | refine acode_region ?_)
  refine aops_boxf rfl rfl rfl rfl rfl rfl rfl ?_
  repeat (first | refine aops_end ?_ | refine aops_p tok rfl rfl rfl rfl ?_ | refine acode_seq ?_ | refine acode_region ?_)
  refine aops_call Try.func10 rfl rfl rfl rfl (check_calls hg _) rfl rfl ?_
  rintro y M1 ⟨⟨a0, rfl⟩, hM1⟩
  rw [h, hM1]
  repeat' (first | refine aops_put rfl ?_ | refine aops_end ?_ | (refine aops_pd tok rfl rfl rfl rfl ?_ ?_ <;> intro e_) | (refine aops_pn tok rfl rfl rfl rfl ?_ ?_ <;> intro e_) | refine aops_p tok rfl rfl rfl rfl ?_ | refine acode_it rfl ?_ | refine acode_if rfl ?_ | refine acode_seq ?_ | refine acode_region ?_ | refine acode_skip ?_ | refine then_n ?_)
  any_goals (exfalso; omega)
  refine acode_drawP [] 5 [0, 1, 2, 3, 4] [4] mixed (by kernel_rfl) (by kernel_rfl) rfl ?_
  repeat (refine seqO_p tok rfl rfl rfl rfl rfl ?_)
  refine seqO_y rfl (fun M' => yields_appf tok rfl rfl rfl rfl (by rw [ints_len1]) (ints_cell _) rfl (by show _ * 8 ≤ _; omega) (by omega) rfl rfl rfl) rfl ?_
  repeat (refine seqO_p tok rfl rfl rfl rfl rfl ?_)
  refine seqO_boxo rfl rfl rfl rfl (by simp) rfl rfl rfl rfl fun cb => ?_
  refine seqO_T rfl ?_
  refine SeqT.done ?_
  refine aops_adoptF 8 rfl rfl ?_
  repeat (first | refine aops_end ?_ | refine aops_p tok rfl rfl rfl rfl ?_ | refine acode_seq ?_ | refine acode_region ?_ | refine acode_block ?_)
  refine acode_loopS (ι := Nat × List Nat × Option Nat × Nat) (fun p => [(2, .pp (grC g)), (8, .int .i64 n), (9, .ref cb 0), (10, .int .i64 p.1)]) (fun p => ⟨some cb, 9, chL g ks (.own p.2.2.1 p.1 p.2.2.2)⟩ :: ⟨p.2.2.1, p.2.2.2 * 1, endsO p.1 n p.2.1⟩ :: (obsZ n p.2.1 (zeroF (p.1 * (n + 1)) n) ++ M)) (fun p => N - p.1) (fun p => p.1 ≤ N ∧ p.2.1.length = p.1 * (n + 1)) (0, [], none, 0) ⟨Nat.zero_le _, by simp⟩ ⟨rfl, by rw [← hks]; rfl, rfl, rfl, trivial⟩ rfl ?_
  rintro ⟨a, bs, eo, ecap⟩ ⟨ha, hbs⟩
  simp only at ha hbs ⊢
  repeat (first | refine aops_end ?_ | refine aops_p tok rfl rfl rfl rfl ?_ | refine acode_seq ?_ | refine acode_region ?_)
  refine acode_id rfl (fun e => ?_) (fun e => ?_)
  · have haN : a < N := by omega
    repeat (first | refine aops_end ?_ | refine aops_p tok rfl rfl rfl rfl ?_ | refine acode_seq ?_ | refine acode_region ?_ | refine acode_block ?_ | refine acode_skip ?_ | refine then_n ?_)
    refine acode_adopt 11 1 rfl ?_
    refine acode_loopS (ι := Nat × List Nat × Option Nat × Nat) (fun p => [(2, .pp (grC g)), (8, .int .i64 n), (9, .ref cb 0), (10, .int .i64 a), (11, .own p.2.2.1 p.1 p.2.2.2), (12, .int .i64 p.1)]) (fun p => ⟨p.2.2.1, p.2.2.2 * 1, rowsO n p.2.1 a p.1⟩ :: ⟨some cb, 9, chL g ks (.own eo a ecap)⟩ :: ⟨eo, ecap * 1, endsO a n p.2.1⟩ :: (obsZ n p.2.1 (zeroF (a * (n + 1) + p.1) n) ++ M)) (fun p => n + 1 - p.1) (fun p => p.1 ≤ n + 1 ∧ p.2.1.length = a * (n + 1) + p.1) (0, bs, none, 0) ⟨Nat.zero_le _, hbs⟩ ⟨rfl, rfl, rfl, rfl, rfl, rfl, trivial⟩ rfl ?_
    clear hbs
    rintro ⟨i, bs, ro, cap⟩ ⟨hi, hbs⟩
    simp only at hi hbs ⊢
    repeat (first | refine aops_end ?_ | refine aops_p tok rfl rfl rfl rfl ?_ | refine acode_seq ?_ | refine acode_region ?_)
    refine acode_id rfl (fun e2 => ?_) (fun e2 => ?_)
    · have hin : i ≤ n := by omega
      repeat (first | refine aops_a tok rfl (by omega) (by omega) rfl rfl rfl ?_ | refine aops_p tok rfl rfl rfl rfl ?_ | refine acode_seq ?_ | refine acode_region ?_ | refine acode_block ?_ | refine acode_skip ?_ | refine then_n ?_)
      refine aops_mk tok (n + 1) rfl rfl rfl rfl (by omega) rfl (by show _ * 1 ≤ _; omega) (by omega) rfl rfl rfl fun b2 => ?_
      skip
      refine aops_litn tok rfl rfl rfl rfl rfl rfl rfl ?_
      refine aops_append tok 1 (m := 1) rfl rfl rfl (.inl rfl) rfl rfl (by rw [rowsO_len, Nat.mul_one]) rfl rfl rfl (by show _ * 24 ≤ _; omega) (by omega) rfl rfl fun ob' cap' => ?_
      refine aops_perm (⟨ob', cap' * 1, rowsO n (bs ++ [b2]) a (i + 1)⟩ :: ⟨some cb, 9, chL g ks (.own eo a ecap)⟩ :: ⟨eo, ecap * 1, endsO a n (bs ++ [b2])⟩ :: (obsZ n (bs ++ [b2]) (zeroF (a * (n + 1) + i + 1) n) ++ M)) ?_ ?_
      · rw [obsZ_snoc hbs, rowsO_snoc hbs, endsO_app (by omega), List.append_assoc, show bools (zeroB n) = zerosA [A.bool false] (n + 1) from (bools_zeros _).symm]
        exact (List.perm_middle (l₁ := _ :: _ :: _ :: obsZ n bs (zeroF (a * (n + 1) + i) n))).symm
      repeat (first | refine aops_put rfl ?_ | refine aops_end ?_ | refine aops_endb ?_ | refine aops_a tok rfl (by omega) (by omega) rfl rfl rfl ?_ | refine aops_p tok rfl rfl rfl rfl ?_ | refine acode_region ?_ | refine then_n ?_)
      exact ⟨(i + 1, bs ++ [b2], ob', cap'), ⟨by simp; omega, by simp [hbs]; omega⟩, by simp; omega, ⟨rfl, rfl, rfl, rfl, rfl, rfl, trivial⟩, rfl⟩
    · obtain rfl : i = n + 1 := by omega
      refine acode_exit ?_
      repeat (first | refine exit_then ?_ | refine exit_here ?_ | refine then_n ?_)
      refine acode_pub0 11 1 rfl rfl (by rw [rowsO_len, Nat.mul_one]) rfl ?_
      repeat (first | refine aops_p tok rfl rfl rfl rfl ?_ | refine aops_ld tok 0 rfl rfl rfl rfl rfl rfl rfl rfl ?_ | refine acode_region ?_)
      refine aops_litn tok rfl rfl rfl rfl rfl rfl rfl ?_
      refine aops_append tok 1 (m := 1) rfl rfl rfl (.inl rfl) rfl rfl (by rw [endsO_len, Nat.mul_one]) rfl rfl rfl (by show _ * 24 ≤ _; omega) (by omega) rfl rfl fun ob' cap' => ?_
      repeat (first | refine aops_put rfl ?_ | refine aops_end ?_ | refine aops_endb ?_ | refine aops_a tok rfl (by omega) (by omega) rfl rfl rfl ?_ | refine aops_p tok rfl rfl rfl rfl ?_ | refine aops_stn tok rfl rfl rfl rfl rfl rfl rfl rfl rfl ?_ | refine acode_region ?_ | refine then_n ?_)
      have hes := endsO_snoc a n bs
      have hsm : (a + 1) * (n + 1) = a * (n + 1) + (n + 1) := Nat.succ_mul _ _
      exact ⟨(a + 1, bs, ob', cap'), ⟨by simp; omega, by simp [hbs, hsm]⟩, by simp; omega, ⟨rfl, rfl, rfl, rfl, trivial⟩, by simp only [hes, hsm]; rfl⟩
  obtain rfl : N = a := by omega
  clear e ha
  refine acode_exit ?_
  repeat (first | refine exit_then ?_ | refine exit_here ?_ | refine then_n ?_)
  refine acode_pubFld 8 (sz := 1) rfl rfl (by rw [endsO_len, Nat.mul_one]) (by decide) rfl ?_
  have hR0 : fixI (chI g ks n) (N * (n + 1) * (n + 1) + 1) (zeroF (N * (n + 1)) n) = chF g ks N n := rfl
  have h0c : totF (zeroF (N * (n + 1)) n) < N * (n + 1) * (n + 1) + 1 := by rw [totF_zero]; omega
  have h0l : FOk (N * (n + 1)) n (zeroF (N * (n + 1)) n) := zeroF_ok _ _
  generalize N * (n + 1) * (n + 1) + 1 = K at *
  generalize chF g ks N n = fin at *
  generalize zeroF (N * (n + 1)) n = F0 at *
  have hbox : (chL g ks (A.own eo N ecap)).set 8 (A.psl N (endsO N n bs)) = chL g ks (A.psl N (endsO N n bs)) := rfl
  rw [hbox]
  repeat (first | refine aops_end ?_ | refine aops_p tok rfl rfl rfl rfl ?_ | refine acode_seq ?_ | refine acode_region ?_ | refine acode_block ?_)
  refine acode_loopS (ι := Nat × List (List Bool) × Bool) (fun p => [(2, .pp (grC g)), (8, .int .i64 n), (9, .ref cb 0), (13, .bool p.2.2)]) (fun p => ⟨some cb, 9, chL g ks (.psl N (endsO N n bs))⟩ :: (obsZ n bs p.2.1 ++ M)) (fun p => if p.2.2 then p.1 + 1 else 0) (fun p => FOk (N * (n + 1)) n p.2.1 ∧ (p.2.2 = true → fixI (chI g ks n) p.1 p.2.1 = fin ∧ totF p.2.1 < p.1) ∧ (p.2.2 = false → p.2.1 = fin)) (K, F0, true) ⟨h0l, fun _ => ⟨hR0, h0c⟩, fun h => by cases h⟩ ⟨rfl, rfl, rfl, rfl, trivial⟩ rfl ?_
  clear hR0 h0c h0l
  rintro ⟨q, F, more⟩ ⟨hF, hm, hd⟩
  simp only at hF hm hd ⊢
  cases more with
  | false =>
    obtain rfl := hd rfl
    repeat' (first | refine aops_end ?_ | refine aops_p tok rfl rfl rfl rfl ?_ | refine acode_if rfl ?_ | refine acode_seq ?_ | refine acode_region ?_)
    refine acode_exit ?_
    repeat (first | refine exit_then ?_ | refine exit_here ?_ | refine then_n ?_)
    repeat (first | refine aops_end ?_ | refine aops_p tok rfl rfl rfl rfl ?_ | refine acode_seq ?_ | refine acode_region ?_)
    refine acode_freezeV (V := ⟨some cb, 9, chL g ks (.psl N (endsO N n bs))⟩ :: obsZ n bs F) [(4, .pp (chC g ks N n F)), (5, .int .i64 0)] ⟨.ref (.head _) (vw_chart hbs hF (fun o ho => .tail _ ho)), .refl _, trivial⟩ ?_
    refine acode_ret ?_
    skip
    exact ⟨_, ⟨rfl, rfl⟩, _, _, rfl, resOf_tmp rfl, resOf_tmp rfl⟩
  | true =>
    obtain ⟨hI, hcnt⟩ := hm rfl
    clear hm hd
    obtain ⟨q', rfl⟩ : ∃ q', q = q' + 1 := ⟨q - 1, by omega⟩
    obtain ⟨hRl, hR1, hR2⟩ := chI_gw (ks := ks) hlt F hF
    simp only [fixI] at hI
    simp only at hR1 hR2 hRl
    generalize hres : chI g ks n F = RES at hI hR1 hR2 hRl
    unfold chI at hres
    repeat' (first | refine aops_end ?_ | refine aops_p tok rfl rfl rfl rfl ?_ | refine acode_it rfl ?_ | refine acode_seq ?_ | refine acode_region ?_ | refine acode_block ?_ | refine acode_skip ?_ | refine then_n ?_)
    refine acode_loopS (ι := Nat × List (List Bool) × Bool) (fun p => [(2, .pp (grC g)), (8, .int .i64 n), (9, .ref cb 0), (13, .bool p.2.2), (14, .int .i64 p.1)]) (fun p => ⟨some cb, 9, chL g ks (.psl N (endsO N n bs))⟩ :: (obsZ n bs p.2.1 ++ M)) (fun p => g.rules.length - p.1) (fun p => p.1 ≤ g.rules.length ∧ FOk (N * (n + 1)) n p.2.1 ∧ (g.rules.drop p.1).foldl (chR ks n) (p.2.1, p.2.2) = RES) (0, F, false) ⟨Nat.zero_le _, hF, hres⟩ ⟨rfl, rfl, rfl, rfl, rfl, trivial⟩ rfl ?_
    clear hres
    rintro ⟨j, F1, m1⟩ ⟨hj, hF1, hfold⟩
    simp only at hj hF1 hfold ⊢
    repeat (first | refine aops_end ?_ | refine aops_p tok rfl rfl rfl rfl ?_ | refine acode_seq ?_ | refine acode_region ?_)
    refine acode_id rfl (fun e => ?_) (fun e => ?_)
    · have hjl : j < g.rules.length := by omega
      obtain ⟨r, hr⟩ : ∃ r, g.rules[j]? = some r := ⟨g.rules[j], List.getElem?_eq_getElem hjl⟩
      have hrm := List.mem_of_getElem? hr
      have hdr : g.rules.drop j = r :: g.rules.drop (j + 1) := by
        rw [List.drop_eq_getElem_cons hjl]
        rw [List.getElem?_eq_getElem hjl] at hr
        rw [Option.some.inj hr]
      rw [hdr, List.foldl_cons] at hfold
      obtain ⟨hr0, hr1⟩ := fo.left r hrm
      have hl1 := hlt r hrm
      have hrr := (hg.rr r hrm).1
      have hsy := fo.sym r hrm
      generalize hres : chR ks n (F1, m1) r = RES1 at hfold
      unfold chR at hres
      repeat (first | refine aops_end ?_ | refine aops_p tok rfl rfl rfl rfl ?_ | refine acode_seq ?_ | refine acode_region ?_ | refine acode_block ?_ | refine acode_skip ?_ | refine then_n ?_)
      refine acode_loopS (ι := Nat × List (List Bool) × Bool) (fun p => [(2, .pp (grC g)), (8, .int .i64 n), (9, .ref cb 0), (13, .bool p.2.2), (14, .int .i64 j), (15, .int .i64 ((n : Int) - p.1))]) (fun p => ⟨some cb, 9, chL g ks (.psl N (endsO N n bs))⟩ :: (obsZ n bs p.2.1 ++ M)) (fun p => n + 1 - p.1) (fun p => p.1 ≤ n + 1 ∧ FOk (N * (n + 1)) n p.2.1 ∧ (((List.range (n + 1)).reverse).drop p.1).foldl (chS ks n r) (p.2.1, p.2.2) = RES1) (0, F1, m1) ⟨Nat.zero_le _, hF1, hres⟩ ⟨rfl, rfl, rfl, rfl, rfl, by simp; rfl, trivial⟩ rfl ?_
      clear hres hF1
      rintro ⟨m, F1, m1⟩ ⟨hm, hF1, hres⟩
      simp only at hm hF1 hres ⊢
      repeat (first | refine aops_end ?_ | refine aops_p tok rfl rfl rfl rfl ?_ | refine acode_seq ?_ | refine acode_region ?_)
      refine acode_id rfl (fun e2 => ?_) (fun e2 => ?_)
      · have hmn : m ≤ n := by omega
        rw [rev_drop hmn, List.foldl_cons] at hres
        obtain ⟨i, hie⟩ : ∃ i, n - m = i := ⟨_, rfl⟩
        have hcast : (n : Int) - m = i := by omega
        have hin : i ≤ n := by omega
        rw [hie] at hres
        rw [hcast]
        have hlq := idx_lt (n := n) hl1 hin
        obtain ⟨x, hx, hxl⟩ := fok_at hF1 hlq
        have hxd : F1.getD (r.left.toNat * (n + 1) + i) [] = x := by rw [List.getD_eq_getElem?_getD, hx]; rfl
        have hbq : bs[r.left.toNat * (n + 1) + i]? = some (bs.getD (r.left.toNat * (n + 1) + i) 0) := by rw [List.getD_eq_getElem?_getD, List.getElem?_eq_getElem (by omega)]; rfl
        have hrow := row_calls (g := g) (ks := ks) (l := r.right) (N := N) (n := n) (fr := i) (F := F1) hN hks hn (by have := fo.k1; omega) hF1 hrr hsy hin []
        have hrowl : (rowF ks n F1 r.right i).length = n + 1 := rowF_len ks n F1 i r.right _ (tab_len _ _)
        have hok2 := (chS_gw (ks := ks) r hl1 (F1, m1) i hin hF1).1
        have hst : chS ks n r (F1, m1) i = (F1.set (r.left.toNat * (n + 1) + i) (orL x (fromT n i (rowF ks n F1 r.right i))), cameL x (fromT n i (rowF ks n F1 r.right i)) || m1) := by unfold chS joinS; simp only [hxd]
        rw [hst] at hres hok2
        have hrat := rowsO_at (n := n) (m := n + 1) (bs := bs) (a := r.left.toNat) (i := i) (by omega)
        generalize hbqe : bs.getD (r.left.toNat * (n + 1) + i) 0 = bq at *
        generalize hqd : r.left.toNat * (n + 1) + i = qd at *
        generalize rowF ks n F1 r.right i = to at *
        have hfl : (fromT n i to).length = n + 1 := tab_len _ _
        have hfat : ∀ j, j ≤ n → (fromT n i to).getD j false = (decide (i ≤ j) && to.getD j false) := fun j hj => tab_getD hj
        generalize fromT n i to = f at *
        obtain ⟨hb1, hb2⟩ := orT_below (x := x) (f := f) (i := i) (fun u hu => by rw [hfat u (by omega), decide_eq_false (by omega)]; rfl) (by omega)
        repeat (first | refine aops_p tok rfl rfl rfl rfl ?_ | refine acode_seq ?_ | refine acode_region ?_ | refine acode_block ?_ | refine acode_skip ?_ | refine then_n ?_)
        refine aops_ix tok (ruC r) rfl rfl rfl rfl (by omega) (by omega) (by simp [ruC]) (encs_at (e := ruC) (s := 3) (fun _ => rfl) (i := (j : Int).toNat) (by simpa using hr)) rfl rfl rfl ?_
        repeat (refine aops_p tok rfl rfl rfl rfl ?_)
        refine aops_call Try.func71 rfl rfl rfl rfl (acalls_mk0 (x := fun b => .own (some b) (n + 1) (n + 1)) (fun _ => rfl) (.cons (.ref (.head _) (vw_chart hbs hF1 (fun o ho => .tail _ (List.mem_append_left _ ho)))) (.cons (.refl _) (.cons (.refl _) .nil))) hrow) rfl rfl ?_
        rintro y M2 ⟨b3, rfl, hM2⟩
        rw [hM2]
        repeat (first | refine aops_put rfl ?_ | refine aops_p tok rfl rfl rfl rfl ?_)
        refine aops_end ?_
        refine acode_pub0 16 1 rfl rfl (by rw [bools_len, hrowl, Nat.mul_one]) rfl ?_
        repeat (refine acode_seq ?_)
        refine acode_drawT 15 mixed (by kernel_rfl) (by kernel_rfl) ?_
        repeat (first | refine seqT_p tok rfl rfl rfl rfl ?_ | refine seqT_ld tok 0 rfl rfl rfl rfl rfl rfl rfl rfl ?_)
        refine seqT_ix tok (ruC r) rfl rfl rfl rfl (by omega) (by omega) (by simp [ruC]) (encs_at (e := ruC) (s := 3) (fun _ => rfl) (i := (j : Int).toNat) (by simpa using hr)) rfl rfl rfl ?_
        repeat (refine seqT_p tok rfl rfl rfl rfl ?_)
        refine seqT_ix tok [A.psl (n + 1) (rowsO n bs r.left.toNat (n + 1))] rfl rfl rfl rfl hr0 (by omega) (by simp) (endsO_at hr0 hl1) rfl rfl rfl ?_
        repeat (refine seqT_p tok rfl rfl rfl rfl ?_)
        refine seqT_ix tok [A.own (some bq) (n + 1) (n + 1)] rfl rfl rfl rfl (by omega) (by omega) (by simp) hrat rfl rfl rfl ?_
        repeat (refine seqT_p tok rfl rfl rfl rfl ?_)
        refine SeqT.done ?_
        repeat (first | refine aops_end ?_ | refine aops_p tok rfl rfl rfl rfl ?_ | refine acode_seq ?_ | refine acode_region ?_ | refine acode_block ?_)
        refine acode_loopS (ι := Nat) (fun u => [(2, .pp (grC g)), (8, .int .i64 n), (9, .ref cb 0), (13, .bool (cameT x f u || m1)), (14, .int .i64 j), (15, .int .i64 i), (16, .psl (n + 1) (bools to)), (17, .own (some bq) (n + 1) (n + 1)), (18, .int .i64 u)]) (fun u => ⟨some cb, 9, chL g ks (.psl N (endsO N n bs))⟩ :: (obsZ n bs (F1.set qd (orT x f u)) ++ M)) (fun u => n + 1 - u) (fun u => i ≤ u ∧ u ≤ n + 1) i ⟨Nat.le_refl _, by omega⟩ ⟨rfl, rfl, rfl, by rw [hb2]; rfl, rfl, rfl, rfl, rfl, rfl, trivial⟩ (by rw [hb1, set_at hx]) ?_
        rintro u ⟨hu0, hu1⟩
        repeat (first | refine aops_end ?_ | refine aops_p tok rfl rfl rfl rfl ?_ | refine acode_seq ?_ | refine acode_region ?_)
        refine acode_id rfl (fun e3 => ?_) (fun e3 => ?_)
        · have hun : u ≤ n := by omega
          have htu := getD_at (l := to) (i := u) (by omega)
          have hfu := hfat u hun
          rw [decide_eq_true hu0, Bool.true_and] at hfu
          have hoq : (orT x f u)[u]? = some (x.getD u false) := by rw [orT_get (by omega), if_neg (by omega)]
          have hsc := orT_succ (o := x) (f := f) (q := u) (by omega)
          have hcs := cameT_succ x f u
          have hsm := orT_same (o := x) (f := f) (q := u) (by omega)
          have hol := orT_len x f u
          have hset : (F1.set qd (orT x f u))[qd]? = some (orT x f u) := by rw [List.getElem?_set_self]; rw [hF1.1]; exact hlq
          rw [hfu] at hsc hcs hsm
          generalize to.getD u false = fq at *
          generalize x.getD u false = xq at *
          generalize cameT x f u = c1 at *
          repeat (first | refine aops_p tok rfl rfl rfl rfl ?_ | refine acode_seq ?_ | refine acode_region ?_ | refine acode_block ?_ | refine acode_skip ?_ | refine then_n ?_)
          refine aops_ix tok [A.bool fq] rfl rfl rfl rfl (by omega) (by omega) (by simp) (bools_at (j := u) (by simpa using htu)) rfl rfl rfl ?_
          cases fq with
          | false =>
            rw [← hsm (.inl rfl)]
            repeat' (first | refine aops_end ?_ | refine aops_o rfl rfl rfl ?_ | refine aops_a tok rfl (by omega) (by omega) rfl rfl rfl ?_ | refine aops_p tok rfl rfl rfl rfl ?_ | refine acode_if rfl ?_ | refine acode_region ?_ | refine acode_skip ?_ | refine then_n ?_ | refine block_n ?_)
            exact ⟨u + 1, ⟨by omega, by omega⟩, by omega, ⟨rfl, rfl, rfl, by rw [hcs]; simp; rfl, rfl, rfl, rfl, rfl, rfl, trivial⟩, rfl⟩
          | true =>
            repeat (refine aops_p tok rfl rfl rfl rfl ?_)
            refine aops_ixo tok rfl rfl rfl rfl (by omega) (by omega) rfl rfl rfl ?_
            refine aops_ld tok (qd + 1) (y := .bool xq) rfl rfl rfl (obs_at hbq hset) (by rw [headed_eq]; exact bools_get hoq) rfl rfl rfl ?_
            cases xq with
            | true =>
              rw [← hsm (.inr rfl)]
              repeat' (first | refine aops_end ?_ | refine aops_a tok rfl (by omega) (by omega) rfl rfl rfl ?_ | refine aops_p tok rfl rfl rfl rfl ?_ | refine acode_if rfl ?_ | refine acode_region ?_ | refine acode_skip ?_ | refine then_n ?_ | refine block_n ?_)
              exact ⟨u + 1, ⟨by omega, by omega⟩, by omega, ⟨rfl, rfl, rfl, by rw [hcs]; simp; rfl, rfl, rfl, rfl, rfl, rfl, trivial⟩, rfl⟩
            | false =>
              repeat' (first | refine aops_end ?_ | refine aops_p tok rfl rfl rfl rfl ?_ | refine acode_it rfl ?_ | refine acode_seq ?_ | refine acode_region ?_)
              refine aops_ixo tok rfl rfl rfl rfl (by omega) (by omega) rfl rfl rfl ?_
              refine aops_stk tok (qd + 1) (bools (orT x f (u + 1))) (⟨some cb, 9, chL g ks (.psl N (endsO N n bs))⟩ :: (obsZ n bs (F1.set qd (orT x f (u + 1))) ++ M)) rfl rfl rfl rfl (obs_at hbq hset) rfl (by rw [bools_len, hol, hxl]; show u * 1 + 1 ≤ _; omega) (by rw [← hsc]; exact bools_set (by rw [hol]; omega) _) (by rw [obs_set hbq hset, List.set_set]) rfl rfl ?_
              repeat (first | refine aops_end ?_ | refine aops_endb ?_ | refine aops_a tok rfl (by omega) (by omega) rfl rfl rfl ?_ | refine aops_p tok rfl rfl rfl rfl ?_ | refine acode_region ?_ | refine then_n ?_)
              exact ⟨u + 1, ⟨by omega, by omega⟩, by omega, ⟨rfl, rfl, rfl, by rw [hcs]; simp; rfl, rfl, rfl, rfl, rfl, rfl, trivial⟩, rfl⟩
        · have hue : u = n + 1 := by omega
          have hall := orT_all x f
          rw [hxl, ← hue] at hall
          have hcl : cameT x f u = cameL x f := by unfold cameT cameL; rw [hxl, hue]
          rw [hall, hcl]
          refine acode_exit ?_
          repeat (first | refine exit_then ?_ | refine exit_here ?_ | refine then_n ?_ | refine block_n ?_)
          repeat (first | refine aops_end ?_ | refine aops_a tok rfl (by omega) (by omega) rfl rfl rfl ?_ | refine aops_p tok rfl rfl rfl rfl ?_ | refine acode_region ?_)
          exact ⟨(m + 1, F1.set qd (orL x f), cameL x f || m1), ⟨by simp; omega, hok2, hres⟩, by simp; omega, ⟨rfl, rfl, rfl, rfl, rfl, by show A.int .i64 _ = A.int .i64 _; congr 1; simp; omega, trivial⟩, rfl⟩
      · obtain rfl : m = n + 1 := by omega
        rw [List.drop_of_length_le (by simp), List.foldl_nil] at hres
        subst hres
        refine acode_exit ?_
        repeat (first | refine exit_then ?_ | refine exit_here ?_ | refine then_n ?_ | refine block_n ?_)
        repeat (first | refine aops_end ?_ | refine aops_a tok rfl (by omega) (by omega) rfl rfl rfl ?_ | refine aops_p tok rfl rfl rfl rfl ?_ | refine acode_region ?_)
        exact ⟨(j + 1, F1, m1), ⟨by simp; omega, hF1, hfold⟩, by simp; omega, ⟨rfl, rfl, rfl, rfl, rfl, trivial⟩, rfl⟩
    · have hge : j = g.rules.length := by omega
      subst hge
      rw [List.drop_length] at hfold
      simp only [List.foldl_nil] at hfold
      refine acode_exit ?_
      repeat (first | refine exit_then ?_ | refine exit_here ?_ | refine then_n ?_ | refine block_n ?_)
      skip
      rw [← hfold] at hI hR2
      simp only at hI hR2
      refine ⟨(q', F1, m1), ⟨hF1, fun h => ?_, fun h => ?_⟩, ?_, ⟨rfl, rfl, rfl, rfl, trivial⟩, rfl⟩
      · simp only at h
        rw [if_pos h] at hI
        refine ⟨hI, ?_⟩
        rcases hR2 h with h3 | h3
        · cases h3
        · simp only; omega
      · simp only at h
        rw [h, if_neg (by simp)] at hI
        exact hI
      · simp only
        cases m1 <;> simp
end Go.Proofs.Ytbnhmioijeagiaa.Ab
/- Structs of numbers held against each other. No condition. -/
set_option linter.unusedVariables false
set_option linter.unusedSimpArgs false
namespace Go.Proofs.Ytbnhmioijeagiaa.Ab
section
variable {P : Program} {T : List TI} {N : Nat} {ops : Array Oper} {rest : List Oper} {o : Oper} {Q : Exit → St → Prop} {E F : Env} {M : List Ob}
theorem ints_repL (G : Gh) : ∀ l : List Int, RepL G (ints l) (l.map (Value.int .i64))
  | [] => rfl
  | x :: l => ⟨_, _, rfl, rfl, ints_repL G l⟩
theorem ints_val {G : Gh} : ∀ {l : List Int} {vs : List Value}, RepL G (ints l) vs → vs = l.map (Value.int .i64)
  | [], _, h => h
  | x :: l, _, h => by
    obtain ⟨v, vs', rfl, h1, h2⟩ := h
    simp only [Rep] at h1
    rw [h1, ints_val h2]; rfl
theorem part_int {e : Nat} {ei : TI} (he : TG P e ei) (hk : ei.k = .int .i64) {l : List Int} {k : Nat} {x : Int} (h : l[k]? = some x) (w : World) : (part e (l.map (Value.int .i64)).toArray k).run P w = .ok (.int .i64 x) w := by
  obtain ⟨v, h1, h2⟩ := part_run (w := w) he (ints_repL ⟨fun _ => [], fun _ => none, fun _ => False, fun _ => none⟩ l) (off := k) (r := .int .i64 x) (by rw [hk]; exact ints_get h)
  simp only [Rep] at h2
  rw [h1, h2]
theorem eqFields_ints {e : Nat} {ei : TI} (he : TG P e ei) (hk : ei.k = .int .i64) (xs ys : List Int) (d : Nat) (w : World) : ∀ (gs : List Field) (k : Nat), gs.map (fun f => (f.offset, f.type)) = (List.range' k gs.length).map (fun i => (i, e)) → (∀ f ∈ gs, f.name ≠ "_") → k + gs.length = xs.length → k + gs.length = ys.length →
    (Op.eqFields (d + 1) (xs.map (Value.int .i64)).toArray (ys.map (Value.int .i64)).toArray gs).run P w = .ok (xs.drop k == ys.drop k) w
  | [], k, _, _, hx, hy => by
    simp only [List.length_nil, Nat.add_zero] at hx hy
    simp only [Op.eqFields, Sem.run_pure]
    rw [List.drop_eq_nil_of_le (by omega), List.drop_eq_nil_of_le (by omega)]; rfl
  | f :: gs, k, hm, hn, hx, hy => by
    simp only [List.length_cons, List.range'_succ, List.map_cons, List.cons.injEq, Prod.mk.injEq] at hm hx hy
    obtain ⟨⟨ho, ht⟩, hm⟩ := hm
    have h1 : xs[k]? = some (xs[k]'(by omega)) := List.getElem?_eq_getElem (by omega)
    have h2 : ys[k]? = some (ys[k]'(by omega)) := List.getElem?_eq_getElem (by omega)
    have ih := eqFields_ints he hk xs ys d w gs (k + 1) hm (fun f hf => hn f (by simp [hf])) (by omega) (by omega)
    have hu := und_int he hk
    rw [List.drop_eq_getElem_cons (show k < xs.length by omega), List.drop_eq_getElem_cons (show k < ys.length by omega)]
    simp only [Op.eqFields, if_pos (hn f (by simp)), Sem.run_bind, ho, ht, part_int he hk h1, part_int he hk h2, Result.andThen_ok, run_equalIn_int w d e .i64 .i64 _ _ hu]
    rw [List.cons_beq_cons]
    cases hb : (xs[k]'(by omega) == ys[k]'(by omega)) with
    | true => simp only [Bool.not_true, Bool.false_eq_true, if_false, Bool.true_and]; exact ih
    | false => simp
def eqstB (P : Program) (t : Nat) : Bool := (P.fieldsOf t).all (fun f => f.name != "_") && !P.stoodInHeld t && !P.eqGuardType P.depth t
theorem aops_eqst (hT : TOk P T) {t t' d e : Nat} {x y : Operand} (l m : List Int) (ho : o.op = .binOp .eql t x y t') (ht : kindOf T t = some (.struct ((List.range' 0 l.length).map fun i => (i, e)))) (he : kindOf T e = some (.int .i64)) (hB : eqstB P t = true) (hx : opA E x = .agg (ints l)) (hy : opA E y = .agg (ints m)) (hlm : l.length = m.length) (hg : guardOn ops o E = some true) (hd : o.dst = some d) (hN : Nat.blt d N = true)
    (next : AOps P N ops rest Q ⟨(d, .bool (l == m)) :: E, M⟩) : AOps P N ops (o :: rest) Q ⟨E, M⟩ := by
  refine aops_val hg (by rw [hd]; exact hN) (.bool (l == m)) M (fun K G av w hi => ?_) (by rw [hd]; exact next)
  have hrx := opA_rep hi x
  have hry := opA_rep hi y
  rw [hx] at hrx; rw [hy] at hry
  obtain ⟨vx, ex, rx⟩ := hrx
  obtain ⟨vy, ey, ry⟩ := hry
  have e1 := ints_val rx
  have e2 := ints_val ry
  subst e1; subst e2
  simp only [eqstB, Bool.and_eq_true, Bool.not_eq_true'] at hB
  obtain ⟨⟨b1, b2⟩, b3⟩ := hB
  obtain ⟨ti, hti, hk⟩ := Option.map_eq_some_iff.1 ht
  obtain ⟨k1, k2⟩ := known_spec hti
  obtain ⟨tk, ts, tb, tz⟩ := ti
  simp only at hk
  subst hk
  obtain ⟨gs, hu, hgs⟩ := und_struct (hT.get k1 k2)
  have hfo : P.fieldsOf t = gs := by simp [Program.fieldsOf, hu]
  obtain ⟨ei, hei, hke⟩ := Option.map_eq_some_iff.1 he
  obtain ⟨k3, k4⟩ := known_spec hei
  have hlen : gs.toList.length = l.length := by have := congrArg List.length hgs; simpa using this
  have hF := eqFields_ints (hT.get k3 k4) hke l m 9998 w gs.toList 0 (by rw [hlen]; exact hgs) (fun f hf => by
    have := Array.all_eq_true_iff_forall_mem.1 b1 f (by rw [hfo]; exact Array.mem_toList_iff.1 hf)
    simpa using this) (by omega) (by omega)
  refine ⟨.bool (l == m), w, G, ?_, hi.ok, G.le_refl, rfl⟩
  have hq : (binOp .eql t (.agg (l.map (Value.int .i64)).toArray) (.agg (m.map (Value.int .i64)).toArray)).run P w = .ok (.bool (l == m)) w := by
    rw [run_eql_struct, run_equalIn_agg w 9999 t _ _ (by rw [hfo]; exact hu) b2, hfo, hF]
    rfl
  simp only [execOp, ho, ex, ey, Sem.run_bind, run_eqGuard_agg w .eql t x y _ _ b3, hq, Result.andThen_ok]
  rfl
end
end Go.Proofs.Ytbnhmioijeagiaa.Ab
/- Chapter 18's reference, Has, find and ahead: the walk. No condition. -/
set_option linter.unusedVariables false
set_option linter.unusedSimpArgs false
namespace Go.Proofs.Ytbnhmioijeagiaa.Ab
section
variable {P : Program} {T : List TI} {N : Nat} {ops : Array Oper} {o : Oper} {F : Env} {M : List Ob}
theorem yields_eqst (hT : TOk P T) {t t' d e : Nat} {x y : Operand} (l m : List Int) (ho : o.op = .binOp .eql t x y t') (ht : kindOf T t = some (.struct ((List.range' 0 l.length).map fun i => (i, e)))) (he : kindOf T e = some (.int .i64)) (hB : eqstB P t = true) (hx : opA F x = .agg (ints l)) (hy : opA F y = .agg (ints m)) (hlm : l.length = m.length) (hg : guardOn ops o F = some true) (hd : o.dst = some d) (hN : Nat.blt d N = true) : Yields P N ops o (.bool (l == m)) F M := by
  intro E hE rest Q next
  rw [hd] at next
  exact aops_eqst hT l m ho ht he hB ((agree_op hE (by rw [ho]; simp [Op.operands])).trans hx) ((agree_op hE (by rw [ho]; simp [Op.operands])).trans hy) hlm ((agree_guard hE).trans hg) hd hN next
end

attribute [local irreducible] thenA inBlockA ACode AOps put IntKind.wrap
abbrev Ky := Int × Int × Int
def kyL (k : Ky) : List Int := [k.1, k.2.1, k.2.2]
theorem kyL_eq (a b : Ky) : (kyL a == kyL b) = decide (a = b) := by
  obtain ⟨a1, a2, a3⟩ := a
  obtain ⟨b1, b2, b3⟩ := b
  rw [Bool.eq_iff_iff]
  simp [kyL]
def hasF (N n : Nat) (F : List (List Bool)) (a i j : Int) : Bool := decide (0 ≤ a ∧ a < N ∧ 0 ≤ i ∧ i ≤ j ∧ j ≤ n) && chAt n F a.toNat i.toNat j.toNat
set_option maxHeartbeats 4000000 in
theorem has_calls {g : Gr} {ks : List Int} {N n : Nat} {F : List (List Bool)} {a i j : Int} (hN : g.names = N) (hks : ks.length = n) (hn : n ≤ 2000) (hF : FOk (N * (n + 1)) n F) (M : List Ob) :
    ACalls Try.prog 34 [.pp (chC g ks N n F), .int .i64 a, .int .i64 i, .int .i64 j] M (fun r M' => r = .bool (hasF N n F a i j) ∧ M' = M) := by
  refine acalls_of_code 55 Try.func34 rfl rfl rfl ?_
  repeat' (first | refine aops_end ?_ | refine aops_o rfl rfl rfl ?_ | (refine aops_pd tok rfl rfl rfl rfl ?_ ?_ <;> intro e_) | refine aops_p tok rfl rfl rfl rfl ?_ | refine acode_seq ?_ | refine acode_region ?_)
  all_goals try
    (refine acode_ret ?_
     skip
     exact ⟨.bool (hasF N n F a i j), ⟨rfl, rfl⟩, resOf_tmp (by unfold hasF; rw [decide_eq_false (by omega)]; rfl)⟩)
  have h0 : 0 ≤ a := by omega
  have h1 : a.toNat < N := by omega
  have h2 : i.toNat ≤ n := by omega
  obtain ⟨x, hx, hxl⟩ := fok_at hF (idx_lt h1 h2)
  have hxd : F.getD (a.toNat * (n + 1) + i.toNat) [] = x := by rw [List.getD_eq_getElem?_getD, hx]; rfl
  obtain ⟨c, hc⟩ : ∃ c, x[j.toNat]? = some c := ⟨x[j.toNat]'(by omega), List.getElem?_eq_getElem (by omega)⟩
  have hch : chAt n F a.toNat i.toNat j.toNat = c := getM_of hx hc
  refine aops_ix tok [A.psl (n + 1) (rowsF n F a.toNat (n + 1))] rfl rfl rfl rfl h0 (by omega) (by simp) (ends_at h0 h1) rfl rfl rfl ?_
  repeat (refine aops_p tok rfl rfl rfl rfl ?_)
  refine aops_ix tok [A.psl (n + 1) (bools x)] rfl rfl rfl rfl (by omega) (by omega) (by simp) (by rw [← hxd]; exact rows_at (i := i.toNat) (by omega)) rfl rfl rfl ?_
  repeat (refine aops_p tok rfl rfl rfl rfl ?_)
  refine aops_ix tok [A.bool c] rfl rfl rfl rfl (by omega) (by omega) (by simp) (bools_at hc) rfl rfl rfl ?_
  repeat (first | refine aops_end ?_ | refine aops_p tok rfl rfl rfl rfl ?_)
  refine acode_ret ?_
  skip
  exact ⟨.bool (hasF N n F a i j), ⟨rfl, rfl⟩, resOf_tmp (by unfold hasF; rw [decide_eq_true (by omega), hch]; rfl)⟩

def findF (k : Ky) : List Ky → Int → Int
  | [], _ => -1
  | x :: l, i => if x = k then i else findF k l (i + 1)
set_option maxHeartbeats 4000000 in
theorem find_calls {l : List Ky} {k : Ky} (hl : l.length ≤ 9223372036854775807) (M : List Ob) :
    ACalls Try.prog 38 [.psl l.length (encs f3C l), .agg (f3C k)] M (fun r M' => r = .int .i64 (findF k l 0) ∧ M' = M) := by
  refine acalls_of_code 19 Try.func38 rfl rfl rfl ?_
  repeat (first | refine acode_seq ?_ | refine acode_region ?_)
  refine aops_boxf rfl rfl rfl rfl rfl rfl rfl ?_
  repeat (first | refine aops_end ?_ | refine aops_p tok rfl rfl rfl rfl ?_ | refine acode_seq ?_ | refine acode_region ?_ | refine acode_block ?_)
  refine acode_loopS (ι := Nat) (fun i => [(0, .psl l.length (encs f3C l)), (3, .pp (f3C k)), (5, .int .i64 i)]) (fun _ => M) (fun i => l.length - i) (fun i => i ≤ l.length ∧ findF k (l.drop i) i = findF k l 0) 0 ⟨Nat.zero_le _, rfl⟩ ⟨rfl, rfl, rfl, trivial⟩ rfl ?_
  rintro i ⟨hi, hf⟩
  repeat (first | refine aops_end ?_ | refine aops_p tok rfl rfl rfl rfl ?_ | refine acode_seq ?_ | refine acode_region ?_)
  refine acode_id rfl (fun e => ?_) (fun e => ?_)
  · have hil : i < l.length := by omega
    obtain ⟨s, hs⟩ : ∃ s, l[i]? = some s := ⟨l[i], List.getElem?_eq_getElem hil⟩
    have hds : l.drop i = s :: l.drop (i + 1) := by
      rw [List.drop_eq_getElem_cons hil]
      rw [List.getElem?_eq_getElem hil] at hs
      rw [Option.some.inj hs]
    rw [hds, findF] at hf
    repeat (first | refine acode_seq ?_ | refine acode_block ?_ | refine acode_skip ?_ | refine then_n ?_)
    refine acode_drawT 6 mixed (by kernel_rfl) (by kernel_rfl) ?_
    repeat (refine seqT_p tok rfl rfl rfl rfl ?_)
    refine seqT_ix tok (f3C s) rfl rfl rfl rfl (by omega) (by omega) (by simp [f3C]) (encs_at (e := f3C) (s := 3) (fun _ => rfl) (i := (i : Int).toNat) (by simpa using hs)) rfl rfl rfl ?_
    repeat (refine seqT_p tok rfl rfl rfl rfl ?_)
    refine seqT_y (yields_eqst tok (kyL s) (kyL k) rfl rfl rfl (by kernel_rfl) rfl rfl rfl rfl rfl rfl) rfl ?_
    refine SeqT.done ?_
    rw [kyL_eq]
    by_cases hk : s = k
    · rw [if_pos hk] at hf
      rw [decide_eq_true hk, ← hf]
      repeat' (first | refine aops_end ?_ | refine aops_p tok rfl rfl rfl rfl ?_ | refine acode_it rfl ?_ | refine acode_seq ?_ | refine acode_region ?_)
      refine acode_ret ?_
      repeat (first | refine ret_then ?_ | refine ret_block ?_)
      exact ⟨_, ⟨rfl, rfl⟩, resOf_tmp rfl⟩
    · rw [if_neg hk] at hf
      rw [decide_eq_false hk]
      repeat' (first | refine aops_end ?_ | refine aops_a tok rfl (by omega) (by omega) rfl rfl rfl ?_ | refine aops_p tok rfl rfl rfl rfl ?_ | refine acode_if rfl ?_ | refine acode_region ?_ | refine acode_skip ?_ | refine then_n ?_ | refine block_n ?_)
      exact ⟨i + 1, ⟨by omega, hf⟩, by omega, ⟨rfl, rfl, rfl, trivial⟩, rfl⟩
  · obtain rfl : i = l.length := by omega
    rw [List.drop_length, findF] at hf
    rw [← hf]
    refine acode_exit ?_
    repeat (first | refine exit_then ?_ | refine exit_here ?_ | refine then_n ?_)
    repeat (first | refine aops_end ?_ | refine aops_p tok rfl rfl rfl rfl ?_ | refine acode_seq ?_ | refine acode_region ?_)
    refine acode_ret ?_
    skip
    exact ⟨_, ⟨rfl, rfl⟩, resOf_tmp rfl⟩

def aheadF (a b : Ky) : Bool := if a.2.1 ≠ b.2.1 then decide (a.2.1 < b.2.1) else if a.2.2 ≠ b.2.2 then decide (a.2.2 < b.2.2) else decide (a.1 < b.1)
set_option maxHeartbeats 4000000 in
theorem ahead_calls {a b : Ky} (M : List Ob) :
    ACalls Try.prog 39 [.agg (f3C a), .agg (f3C b)] M (fun r M' => r = .bool (aheadF a b) ∧ M' = M) := by
  refine acalls_of_code 32 Try.func39 rfl rfl rfl ?_
  repeat (first | refine acode_seq ?_ | refine acode_region ?_)
  refine aops_boxf rfl rfl rfl rfl rfl rfl rfl ?_
  skip
  refine aops_boxf rfl rfl rfl rfl rfl rfl rfl ?_
  repeat' (first | refine aops_end ?_ | (refine aops_pd tok rfl rfl rfl rfl ?_ ?_ <;> intro e_) | (refine aops_pn tok rfl rfl rfl rfl ?_ ?_ <;> intro e_) | refine aops_p tok rfl rfl rfl rfl ?_ | refine acode_it rfl ?_ | refine acode_if rfl ?_ | refine acode_seq ?_ | refine acode_region ?_ | refine acode_block ?_ | refine acode_skip ?_ | refine then_n ?_ | refine block_n ?_)
  all_goals
    refine acode_ret ?_
    repeat (first | refine ret_then ?_ | refine ret_block ?_)
    refine ⟨.bool (aheadF a b), ⟨rfl, rfl⟩, resOf_tmp ?_⟩
    unfold aheadF
    first
      | (rw [if_pos (by omega)]; first | exact bt (by omega) | exact bf (by omega))
      | (rw [if_neg (by omega), if_pos (by omega)]; first | exact bt (by omega) | exact bf (by omega))
      | (rw [if_neg (by omega), if_neg (by omega)]; first | exact bt (by omega) | exact bf (by omega))
end Go.Proofs.Ytbnhmioijeagiaa.Ab
/- A literal of one's own in a drawn region, and an append that is frozen at once. No condition. -/
set_option linter.unusedVariables false
set_option linter.unusedSimpArgs false
namespace Go.Proofs.Ytbnhmioijeagiaa.Ab
section
variable {P : Program} {T : List TI} {N : Nat} {ops : Array Oper} {rest : List Oper} {o : Oper} {Q : Exit → St → Prop} {E F : Env} {M : List Ob}
theorem seqO_lito (hT : TOk P T) {kp : List Ob} {al : List Nat} {i : Nat} {ll : List Oper} {m d : Nat} {t len e : Nat} {ei : TI} {parts : Array (Nat × Operand)} {r : List A} (hi : al.contains i = true) (ho : o.op = .buildSlice t len parts) (hs : sliceOf T t = some (e, ei)) (hsz : (Nat.blt 0 (len * ei.size) && Nat.ble (len * ei.size) 16777216 && Nat.beq ei.zero.length ei.size) = true)
    (hf : (fillA (fun i => some (i * ei.size, ei.size)) (zerosA (ei.zero.map ofZ) len) (parts.toList.map fun (i, x) => (i, opA F x))).bind normL = some r) (hkp : ∀ o ∈ kp, o ∈ M) (hg : guardOn ops o F = some true) (hd : o.dst = some d) (hN : Nat.blt d N = true)
    (next : ∀ b, SeqO P N ops Q kp al (i + 1) ((d, .own (some b) len len) :: F) (⟨some b, r.length, r⟩ :: M) m ll) : SeqO P N ops Q kp al i F M (m + 1) (o :: ll) := by
  refine SeqO.make (x := fun z => .own (some (z.headD 0)) len len) (M2 := fun z => ⟨some (z.headD 0), r.length, r⟩ :: M) hi (fun E hE rest Q next => ?_) (fun z o ho => List.mem_cons_of_mem _ (hkp o ho)) fun b => ?_
  · refine aops_lito hT ho hs hsz ?_ ((agree_guard hE).trans hg) hd hN fun b => by have := next [b]; rwa [hd] at this
    rw [parts_congr (E := E) (F := F) (fun y hy => agree_op hE (by rw [ho]; exact hy))]
    exact hf
  · rw [hd]; exact next _
theorem eraseIdx_set {α : Type} : ∀ (l : List α) (k : Nat) (y : α), (l.set k y).eraseIdx k = l.eraseIdx k
  | [], _, _ => rfl
  | _ :: _, 0, _ => rfl
  | x :: l, k + 1, y => by simp [eraseIdx_set l k y]
/-- append upon one's own, frozen at once. -/
theorem seqO_appz (hT : TOk P T) {kp : List Ob} {al : List Nat} {i : Nat} {ll : List Oper} {mm : Nat} {t e d : Nat} {ei : TI} {s x : Operand} {ob : Option Nat} {n cap room m : Nat} {cs ds : List A} (k : Nat) (hi : al.contains i = true) (ho : o.op = .call { callee := .builtin .append, args := #[s, x], argTypes := #[t, t] }) (hs : sliceOf T t = some (e, ei))
    (hsv : opA F s = .own ob n cap) (hx : opA F x = .psl m ds) (hM : M[k]? = some ⟨ob, room, cs⟩) (hroom : room = cap * ei.size) (hcs : cs.length = n * ei.size) (hds : ds.length = m * ei.size) (hcell : ds.all A.isCell = true)
    (hz : (Nat.beq ei.zero.length ei.size && Nat.blt 0 ei.size) = true) (hbytes : (n + m) * ei.bytes ≤ 140737488355328) (hlen : n + m ≤ 140737488355328) (hkp : ∀ o ∈ kp, o ∈ M.eraseIdx k) (hg : guardOn ops o F = some true) (hd : o.dst = some d) (hN : Nat.blt d N = true)
    (next : SeqO P N ops Q kp al (i + 1) ((d, .psl (n + m) (cs ++ ds)) :: F) (M.eraseIdx k) mm ll) : SeqO P N ops Q kp al i F M (mm + 1) (o :: ll) := by
  refine SeqO.make (x := fun _ => .psl (n + m) (cs ++ ds)) (M2 := fun _ => M.eraseIdx k) hi (fun E hE rest Q next => ?_) (fun z o ho => hkp o ho) fun z => ?_
  · have e1 : ∀ y ∈ o.op.operands, opA E y = opA F y := fun y hy => agree_op hE hy
    have ex : opA E x = opA F x := e1 x (by rw [ho]; simp [Op.operands, Call.operands])
    refine aops_append hT k ho hs ((e1 s (by rw [ho]; simp [Op.operands, Call.operands])).trans hsv) (by rw [ex]; exact .inl hx) hM hroom hcs hds hcell hz hbytes hlen ((agree_guard hE).trans hg) (by rw [hd]; exact hN) fun ob' cap' => ?_
    have nx := next []
    rw [hd] at nx ⊢
    have hz2 := hz
    simp only [Bool.and_eq_true] at hz2
    have hkl : k < M.length := (List.getElem?_eq_some_iff.1 hM).1
    refine aops_publish d k (ob := ob') (n := n + m) (cap := cap') (room := cap' * ei.size) (cs := cs ++ ds) ei.size (by simp [put, get]) (by rw [List.getElem?_set_self hkl]) rfl (by rw [List.length_append, hcs, hds, Nat.add_mul]) (by simpa using hz2.2) ?_
    rw [eraseIdx_set]
    refine aops_weaken (fun K G a w hi => ⟨G, inv_E hi fun s v hr => ?_⟩) nx
    simp only [get, put] at hr ⊢
    cases hb : Nat.beq d s <;> rw [hb] at hr <;> exact hr
  · rw [hd]; exact next
end
end Go.Proofs.Ytbnhmioijeagiaa.Ab
/- Chapter 18's reference, the ways of a row of symbols: the walk. No condition. -/
set_option linter.unusedVariables false
set_option linter.unusedSimpArgs false
namespace Go.Proofs.Ytbnhmioijeagiaa.Ab
attribute [local irreducible] thenA inBlockA ACode AOps put IntKind.wrap

theorem ints_drop {l : List Int} {j : Int} {i : Nat} (hj : j.toNat = i) : ((ints l).drop (j.toNat * 1)).take ((l.drop i).length * 1) = ints (l.drop i) := by
  rw [Nat.mul_one, Nat.mul_one, hj, List.take_of_length_le (by simp [ints])]
  simp [ints, List.map_drop]
def wyC (r : Int) (w : List Ky) : List A := [.int .i64 r, .psl w.length (encs f3C w)]
theorem wyC_len (r : Int) (w : List Ky) : (wyC r w).length = 2 := rfl
def kyOf (s : Int) (fr j : Nat) : Ky := (if s < 0 then -1 else s, fr, j)
def waysS (ks : List Int) (n : Nat) (F : List (List Bool)) (R : Nat → Nat → List (List Ky)) (s : Int) (l : List Int) (fr to m : Nat) (out : List (List Ky)) (j : Nat) : List (List Ky) :=
  if fr ≤ j ∧ out.length ≤ m ∧ link ks n F s fr j = true ∧ (rowF ks n F l j).getD to false = true then out ++ (R j (m - out.length)).map (kyOf s fr j :: ·) else out
def waysF (ks : List Int) (n : Nat) (F : List (List Bool)) : List Int → Nat → Nat → Nat → List (List Ky)
  | [], fr, to, m => if fr = to then [[]] else []
  | s :: l, fr, to, m => (List.range (to + 1)).foldl (waysS ks n F (fun j m' => waysF ks n F l j to m') s l fr to m) []
theorem waysS_len {ks : List Int} {n : Nat} {F : List (List Bool)} {R : Nat → Nat → List (List Ky)} {s : Int} {l : List Int} {fr to m : Nat} (hR : ∀ j m', (R j m').length ≤ m' + 1) {out : List (List Ky)} (h : out.length ≤ m + 1) (j : Nat) : (waysS ks n F R s l fr to m out j).length ≤ m + 1 := by
  unfold waysS
  split
  · rename_i hc
    have := hR j (m - out.length)
    rw [List.length_append, List.length_map]
    have := hc.2.1
    omega
  · exact h
theorem waysL_len {ks : List Int} {n : Nat} {F : List (List Bool)} {R : Nat → Nat → List (List Ky)} {s : Int} {l : List Int} {fr to m : Nat} (hR : ∀ j m', (R j m').length ≤ m' + 1) : ∀ (L : List Nat) {out : List (List Ky)}, out.length ≤ m + 1 → (L.foldl (waysS ks n F R s l fr to m) out).length ≤ m + 1
  | [], _, h => h
  | j :: L, _, h => waysL_len hR L (waysS_len hR h j)
theorem waysF_len {ks : List Int} {n : Nat} {F : List (List Bool)} : ∀ (l : List Int) (fr to m : Nat), (waysF ks n F l fr to m).length ≤ m + 1
  | [], fr, to, m => by unfold waysF; split <;> simp
  | s :: l, fr, to, m => by
    unfold waysF
    exact waysL_len (fun j m' => waysF_len l j to m') _ (by simp)
theorem waysL_wid {ks : List Int} {n : Nat} {F : List (List Bool)} {R : Nat → Nat → List (List Ky)} {s : Int} {l : List Int} {fr to m : Nat} {q : Nat} (hR : ∀ j m', ∀ w ∈ R j m', w.length = q) : ∀ (L : List Nat) {out : List (List Ky)}, (∀ w ∈ out, w.length = q + 1) → ∀ w ∈ L.foldl (waysS ks n F R s l fr to m) out, w.length = q + 1
  | [], _, h => h
  | j :: L, out, h => waysL_wid hR L (by
    intro w hw
    unfold waysS at hw
    split at hw
    · rcases List.mem_append.1 hw with h1 | h1
      · exact h w h1
      · obtain ⟨v, hv, rfl⟩ := List.mem_map.1 h1
        simp [hR _ _ v hv]
    · exact h w hw)
theorem waysF_wid {ks : List Int} {n : Nat} {F : List (List Bool)} : ∀ (l : List Int) (fr to m : Nat), ∀ w ∈ waysF ks n F l fr to m, w.length = l.length
  | [], fr, to, m, w, hw => by unfold waysF at hw; split at hw <;> simp_all
  | s :: l, fr, to, m, w, hw => by
    unfold waysF at hw
    exact waysL_wid (q := l.length) (fun j m' => waysF_wid l j to m') _ (by simp) w hw
theorem waysL_full {ks : List Int} {n : Nat} {F : List (List Bool)} {R : Nat → Nat → List (List Ky)} {s : Int} {l : List Int} {fr to m : Nat} {out : List (List Ky)} (h : ¬ out.length ≤ m) : ∀ (L : List Nat), L.foldl (waysS ks n F R s l fr to m) out = out
  | [] => rfl
  | j :: L => by rw [List.foldl_cons, show waysS ks n F R s l fr to m out j = out by unfold waysS; rw [if_neg (fun hc => h hc.2.1)]]; exact waysL_full h L
theorem waysL_from {ks : List Int} {n : Nat} {F : List (List Bool)} {R : Nat → Nat → List (List Ky)} {s : Int} {l : List Int} {fr to m : Nat} : ∀ i, i ≤ fr → ((List.range (to + 1)).drop i).foldl (waysS ks n F R s l fr to m) [] = (List.range (to + 1)).foldl (waysS ks n F R s l fr to m) []
  | 0, _ => rfl
  | i + 1, hi => by
    rw [← waysL_from i (by omega)]
    by_cases h : i < to + 1
    · rw [range_drop h, List.foldl_cons, show waysS ks n F R s l fr to m [] i = [] by unfold waysS; rw [if_neg (fun hc => by omega)]]
    · rw [List.drop_of_length_le (by simp; omega), List.drop_of_length_le (by simp; omega)]

set_option maxHeartbeats 32000000 in
theorem ways_calls {g : Gr} {ks : List Int} {N n : Nat} {F : List (List Bool)} {r : Int} (hN : g.names = N) (hks : ks.length = n) (hn : n ≤ 2000) (hk : g.kinds ≤ 1000) (hF : FOk (N * (n + 1)) n F) : ∀ (l : List Int) (fr to m : Nat), l.length ≤ 1000 → (∀ s ∈ l, isSym g s) → fr ≤ n → to ≤ n → m ≤ 1000000 → ∀ (M : List Ob),
    ACalls Try.prog 37 [.pp (chC g ks N n F), .int .i64 r, .psl l.length (ints l), .int .i64 fr, .int .i64 to, .int .i64 m] M (fun x M' => x = .psl (waysF ks n F l fr to m).length (encs (wyC r) (waysF ks n F l fr to m)) ∧ M' = M) := by
  intro l
  induction l with
  | nil =>
    intro fr to m _ _ hfr hto hm M
    refine acalls_of_code 120 Try.func37 rfl rfl rfl ?_
    by_cases hft : fr = to
    · repeat' (first | refine aops_end ?_ | refine aops_pbt tok rfl (by first | omega | decide) rfl rfl rfl ?_ | refine aops_p tok rfl rfl rfl rfl ?_ | refine acode_it rfl ?_ | refine acode_seq ?_ | refine acode_region ?_)
      refine aops_litn tok rfl rfl rfl rfl rfl rfl rfl ?_
      repeat (refine aops_p tok rfl rfl rfl rfl ?_)
      refine aops_end ?_
      refine acode_freezeV (V := []) [(12, .psl 1 [.int .i64 r, .psl 0 []])] ⟨.psl (.cons (.refl _) (.cons .nils .nil)), trivial⟩ ?_
      refine acode_ret ?_
      repeat (refine ret_then ?_)
      exact ⟨_, ⟨rfl, rfl⟩, resOf_tmp (by unfold waysF; rw [if_pos hft]; rfl)⟩
    · repeat' (first | refine aops_end ?_ | refine aops_pbt tok rfl (by first | omega | decide) rfl rfl rfl ?_ | refine aops_pbf tok rfl (by first | omega | decide) rfl rfl rfl ?_ | refine aops_p tok rfl rfl rfl rfl ?_ | refine acode_it rfl ?_ | refine acode_if rfl ?_ | refine acode_seq ?_ | refine acode_region ?_ | refine acode_skip ?_ | refine then_n ?_)
      refine acode_freezeV (V := []) [(12, .psl 0 [])] ⟨.nils, trivial⟩ ?_
      refine acode_ret ?_
      repeat (refine ret_then ?_)
      exact ⟨_, ⟨rfl, rfl⟩, resOf_tmp (by unfold waysF; rw [if_neg hft]; rfl)⟩
  | cons s l ih =>
    intro fr to m hl hsy hfr hto2 hm M
    have hss := hsy s (by simp)
    have hsl : ∀ s ∈ l, isSym g s := fun t ht => hsy t (by simp [ht])
    have hlen : (s :: l).length = l.length + 1 := rfl
    have hfl := waysF_len (ks := ks) (n := n) (F := F) (s :: l) fr to m
    have hRl : ∀ j m', (waysF ks n F l j to m').length ≤ m' + 1 := fun j m' => waysF_len l j to m'
    have hfin : waysF ks n F (s :: l) fr to m = (List.range (to + 1)).foldl (waysS ks n F (fun j m' => waysF ks n F l j to m') s l fr to m) [] := by rw [waysF]
    rw [← waysL_from fr (Nat.le_refl _)] at hfin
    generalize waysF ks n F (s :: l) fr to m = fin at *
    have hs0t : (s :: l)[(0 : Int).toNat]? = some s := rfl
    refine acalls_of_code 120 Try.func37 rfl rfl rfl ?_
    repeat' (first | refine aops_end ?_ | refine aops_pbf tok rfl (by first | omega | decide) rfl rfl rfl ?_ | refine aops_p tok rfl rfl rfl rfl ?_ | refine acode_if rfl ?_ | refine acode_seq ?_ | refine acode_region ?_ | refine acode_block ?_ | refine acode_skip ?_ | refine then_n ?_)
    refine acode_adopt 13 2 rfl ?_
    refine acode_loopS (ι := Nat × List (List Ky) × Option Nat × Nat) (fun p => [(0, .pp (chC g ks N n F)), (1, .int .i64 r), (2, .psl (s :: l).length (ints (s :: l))), (3, .int .i64 fr), (4, .int .i64 to), (5, .int .i64 m), (13, .own p.2.2.1 p.2.1.length p.2.2.2), (14, .int .i64 p.1)]) (fun p => ⟨p.2.2.1, p.2.2.2 * 2, encs (wyC r) p.2.1⟩ :: M) (fun p => to + 1 - p.1) (fun p => fr ≤ p.1 ∧ p.2.1.length ≤ m + 1 ∧ ((List.range (to + 1)).drop p.1).foldl (waysS ks n F (fun j m' => waysF ks n F l j to m') s l fr to m) p.2.1 = fin) (fr, [], none, 0) ⟨Nat.le_refl _, by simp, hfin.symm⟩ ⟨rfl, rfl, rfl, rfl, rfl, rfl, rfl, rfl, trivial⟩ rfl ?_
    clear hfin
    rintro ⟨j, out, ob, cap⟩ ⟨hj, hol, hfin⟩
    simp only at hj hol hfin ⊢
    by_cases hjt : j ≤ to
    · by_cases hom : out.length ≤ m
      · have hjd := range_drop (n := to + 1) (i := j) (by omega)
        rw [hjd, List.foldl_cons] at hfin
        have hnx : ∀ out', waysS ks n F (fun j m' => waysF ks n F l j to m') s l fr to m out j = out' → out'.length ≤ m + 1 ∧ ((List.range (to + 1)).drop (j + 1)).foldl (waysS ks n F (fun j m' => waysF ks n F l j to m') s l fr to m) out' = fin := fun out' h => by
          refine ⟨?_, by rw [← h]; exact hfin⟩
          rw [← h]; exact waysS_len hRl hol j
        clear hfin hjd
        have hlk : link ks n F s fr j = if s < 0 then decide (j = fr + 1) && (decide (fr < n) && decide (ks.getD fr 0 = -1 - s)) else decide (fr ≤ j) && chAt n F s.toNat fr j := rfl
        have hkn : fr < n → ks[fr]? = some (ks.getD fr 0) := fun h => intD_at (l := ks) (i := fr) (by omega)
        generalize hlkv : link ks n F s fr j = ok at *
        repeat' (first | refine aops_end ?_ | refine aops_pbt tok rfl (by first | omega | decide) rfl rfl rfl ?_ | refine aops_p tok rfl rfl rfl rfl ?_ | refine acode_it rfl ?_ | refine acode_seq ?_ | refine acode_region ?_ | refine acode_block ?_ | refine acode_skip ?_ | refine then_n ?_)
        refine aops_ix tok [A.int .i64 s] rfl rfl rfl rfl (by omega) (by omega) (by simp) (ints_at hs0t) rfl rfl rfl ?_
        repeat (refine aops_p tok rfl rfl rfl rfl ?_)
        refine aops_alloc tok rfl rfl rfl rfl rfl rfl fun kb => ?_
        repeat (refine aops_stn tok rfl rfl rfl rfl rfl rfl rfl rfl rfl ?_)
        refine aops_end ?_
        refine acode_seq ?_
        refine acode_region ?_
        repeat (refine aops_p tok rfl rfl rfl rfl ?_)
        refine aops_end ?_
        refine acode_seq ?_
        refine acode_join [(0, .pp (chC g ks N n F)), (1, .int .i64 r), (2, .psl (s :: l).length (ints (s :: l))), (3, .int .i64 fr), (4, .int .i64 to), (5, .int .i64 m), (13, .own ob out.length cap), (14, .int .i64 j), (15, .pp (f3C (kyOf s fr j))), (16, .bool ok)] (⟨ob, cap * 2, encs (wyC r) out⟩ :: M) ?_ ?_
        · by_cases hs0 : s < 0
          · rw [if_pos hs0] at hlk
            have hsk : isKind g s := hss.resolve_right (fun h1 => by unfold isName at h1; omega)
            obtain ⟨k0, k1⟩ := id hsk
            generalize ks.getD fr 0 = kv at *
            have hky : kyOf s fr j = (-1, (fr : Int), (j : Int)) := by unfold kyOf; rw [if_pos hs0]
            rw [hky]
            repeat' (first | refine aops_p tok rfl rfl rfl rfl ?_ | refine acode_seq ?_ | refine acode_region ?_)
            refine aops_ix tok [A.int .i64 s] rfl rfl rfl rfl (by omega) (by omega) (by simp) (ints_at hs0t) rfl rfl rfl ?_
            repeat' (first | refine aops_end ?_ | refine aops_pbt tok rfl (by first | omega | decide) rfl rfl rfl ?_ | refine aops_p tok rfl rfl rfl rfl ?_ | refine acode_it rfl ?_ | refine acode_seq ?_)
            refine acode_drawT 18 mixed (by kernel_rfl) (by kernel_rfl) ?_
            repeat' (first | refine seqT_o rfl rfl rfl ?_ | refine seqT_a tok rfl (by omega) (by omega) rfl rfl rfl ?_ | (refine seqT_pd tok rfl rfl rfl rfl ?_ ?_ <;> intro e_) | refine seqT_p tok rfl rfl rfl rfl ?_)
            · have hfn : fr < n := by omega
              refine seqT_ix tok [A.int .i64 kv] rfl rfl rfl rfl (by omega) (by omega) (by simp) (ints_at (j := fr) (by simpa using hkn hfn)) rfl rfl rfl ?_
              repeat (refine seqT_p tok rfl rfl rfl rfl ?_)
              refine seqT_ix tok [A.int .i64 s] rfl rfl rfl rfl (by omega) (by omega) (by simp) (ints_at hs0t) rfl rfl rfl ?_
              repeat' (first | refine seqT_a tok rfl (by omega) (by omega) rfl rfl rfl ?_ | (refine seqT_pd tok rfl rfl rfl rfl ?_ ?_ <;> intro e_) | refine seqT_p tok rfl rfl rfl rfl ?_)
              all_goals
                refine SeqT.done ?_
                repeat (refine aops_p tok rfl rfl rfl rfl ?_)
                refine aops_end ?_
                refine acode_region ?_
                repeat (first | refine aops_p tok rfl rfl rfl rfl ?_ | refine aops_stn tok rfl rfl rfl rfl rfl rfl rfl rfl rfl ?_)
                refine aops_pubref0 15 rfl ?_
                refine aops_end ?_
                refine ⟨⟨rfl, rfl, rfl, rfl, rfl, rfl, rfl, rfl, rfl, ?_, trivial⟩, rfl⟩
                rw [hlk]
                first
                  | (rw [decide_eq_true (show j = fr + 1 by omega), decide_eq_true hfn, decide_eq_true (show kv = -1 - s by omega)]; rfl)
                  | (rw [decide_eq_false (show ¬ kv = -1 - s by omega), Bool.and_false, Bool.and_false]; rfl)
            · refine SeqT.done ?_
              repeat (refine aops_p tok rfl rfl rfl rfl ?_)
              refine aops_end ?_
              refine acode_region ?_
              repeat (first | refine aops_p tok rfl rfl rfl rfl ?_ | refine aops_stn tok rfl rfl rfl rfl rfl rfl rfl rfl rfl ?_)
              refine aops_pubref0 15 rfl ?_
              refine aops_end ?_
              refine ⟨⟨rfl, rfl, rfl, rfl, rfl, rfl, rfl, rfl, rfl, ?_, trivial⟩, rfl⟩
              rw [hlk, decide_eq_false (show ¬ j = fr + 1 by omega)]; rfl
          · rw [if_neg hs0] at hlk
            have hname : isName g s := hss.resolve_left (fun h1 => by unfold isKind at h1; omega)
            obtain ⟨n0, n1⟩ := id hname
            have hky : kyOf s fr j = (s, (fr : Int), (j : Int)) := by unfold kyOf; rw [if_neg hs0]
            rw [hky]
            have hhas : hasF N n F s fr j = ok := by
              rw [hlk]; unfold hasF
              rw [decide_eq_true (by omega), decide_eq_true hj]; rfl
            repeat' (first | refine aops_p tok rfl rfl rfl rfl ?_ | refine acode_seq ?_ | refine acode_region ?_)
            refine aops_ix tok [A.int .i64 s] rfl rfl rfl rfl (by omega) (by omega) (by simp) (ints_at hs0t) rfl rfl rfl ?_
            repeat' (first | refine aops_end ?_ | refine aops_pbf tok rfl (by first | omega | decide) rfl rfl rfl ?_ | refine aops_p tok rfl rfl rfl rfl ?_ | refine acode_if rfl ?_ | refine acode_region ?_)
            refine aops_ix tok [A.int .i64 s] rfl rfl rfl rfl (by omega) (by omega) (by simp) (ints_at hs0t) rfl rfl rfl ?_
            repeat (refine aops_p tok rfl rfl rfl rfl ?_)
            refine aops_callx Try.func34 rfl rfl rfl rfl (has_calls hN hks hn hF _) rfl rfl rfl ?_
            rw [hhas]
            repeat (refine aops_p tok rfl rfl rfl rfl ?_)
            refine aops_pubref0 15 rfl ?_
            refine aops_end ?_
            exact ⟨⟨rfl, rfl, rfl, rfl, rfl, rfl, rfl, rfl, rfl, rfl, trivial⟩, rfl⟩
        have hdl : ((s :: l).drop 1) = l := rfl
        have hrow := fun M' => row_calls (g := g) (ks := ks) (l := l) (N := N) (n := n) (fr := j) (F := F) hN hks hn hk hF (by omega) hsl (by omega) M'
        have hrowl : (rowF ks n F l j).length = n + 1 := rowF_len ks n F j l _ (tab_len _ _)
        have htoat := getD_at (l := rowF ks n F l j) (i := to) (by omega)
        generalize hvv : (rowF ks n F l j).getD to false = v at *
        generalize hto : rowF ks n F l j = tor at *
        have hst : waysS ks n F (fun j m' => waysF ks n F l j to m') s l fr to m out j = if ok = true ∧ v = true then out ++ (waysF ks n F l j to (m - out.length)).map (kyOf s fr j :: ·) else out := by
          unfold waysS
          rw [hlkv, hto, hvv]
          by_cases hc : ok = true ∧ v = true
          · rw [if_pos ⟨hj, hom, hc.1, hc.2⟩, if_pos hc]
          · rw [if_neg (fun h => hc ⟨h.2.2.1, h.2.2.2⟩), if_neg hc]
        cases ok with
        | false =>
          rw [if_neg (by simp)] at hst
          obtain ⟨h1, h2⟩ := hnx _ hst
          repeat' (first | refine aops_end ?_ | refine aops_o rfl rfl rfl ?_ | refine aops_p tok rfl rfl rfl rfl ?_ | refine acode_it rfl ?_ | refine acode_seq ?_ | refine acode_region ?_)
          refine acode_exit ?_
          repeat (first | refine exit_then ?_ | refine exit_here ?_ | refine then_n ?_)
          repeat (first | refine aops_end ?_ | refine aops_a tok rfl (by omega) (by omega) rfl rfl rfl ?_ | refine aops_p tok rfl rfl rfl rfl ?_ | refine acode_region ?_)
          exact ⟨(j + 1, out, ob, cap), ⟨by simp only; omega, h1, h2⟩, by simp only; omega, ⟨rfl, rfl, rfl, rfl, rfl, rfl, rfl, rfl, trivial⟩, rfl⟩
        | true =>
          repeat (first | refine aops_p tok rfl rfl rfl rfl ?_ | refine acode_seq ?_ | refine acode_region ?_)
          refine aops_slc tok l.length (ints l) rfl rfl rfl rfl rfl (by omega) (by omega) (by omega) (by rw [hlen]; simp) (by rw [ints_len]; exact (Nat.mul_one _).symm) (ints_drop (l := s :: l) (i := 1) rfl) rfl rfl rfl ?_
          repeat (refine aops_p tok rfl rfl rfl rfl ?_)
          refine aops_call Try.func71 rfl rfl rfl rfl (hrow _) rfl rfl ?_
          rintro y M2 ⟨b3, rfl, hM2⟩
          rw [hM2]
          repeat (first | refine aops_put rfl ?_ | refine aops_p tok rfl rfl rfl rfl ?_)
          refine aops_ixo tok rfl rfl rfl rfl (by omega) (by omega) rfl rfl rfl ?_
          refine aops_ld tok 0 (y := .bool v) rfl rfl rfl rfl (by rw [headed_eq]; exact bools_get (j := to) htoat) rfl rfl rfl ?_
          refine aops_drop0 ?_
          cases v with
          | false =>
            rw [if_neg (by simp)] at hst
            obtain ⟨h1, h2⟩ := hnx _ hst
            repeat' (first | refine aops_end ?_ | refine aops_p tok rfl rfl rfl rfl ?_ | refine acode_it rfl ?_)
            refine acode_exit ?_
            repeat (first | refine exit_then ?_ | refine exit_here ?_ | refine then_n ?_)
            repeat (first | refine aops_end ?_ | refine aops_a tok rfl (by omega) (by omega) rfl rfl rfl ?_ | refine aops_p tok rfl rfl rfl rfl ?_ | refine acode_region ?_)
            exact ⟨(j + 1, out, ob, cap), ⟨by simp only; omega, h1, h2⟩, by simp only; omega, ⟨rfl, rfl, rfl, rfl, rfl, rfl, rfl, rfl, trivial⟩, rfl⟩
          | true =>
            rw [if_pos ⟨rfl, rfl⟩] at hst
            obtain ⟨h1, h2⟩ := hnx _ hst
            have hih := ih j to (m - out.length) (by omega) hsl (by omega) hto2 (by omega)
            have hwid := waysF_wid (ks := ks) (n := n) (F := F) l j to (m - out.length)
            rw [List.length_append, List.length_map] at h1
            generalize waysF ks n F l j to (m - out.length) = rest at *
            have hcast : (m : Int) - out.length = ((m - out.length : Nat) : Int) := by omega
            repeat' (first | refine aops_end ?_ | refine aops_p tok rfl rfl rfl rfl ?_ | refine acode_if rfl ?_ | refine acode_seq ?_ | refine acode_region ?_ | refine acode_skip ?_ | refine then_n ?_)
            refine aops_slc tok l.length (ints l) rfl rfl rfl rfl rfl (by omega) (by omega) (by omega) (by rw [hlen]; simp) (by rw [ints_len]; exact (Nat.mul_one _).symm) (ints_drop (l := s :: l) (i := 1) rfl) rfl rfl rfl ?_
            repeat (first | refine aops_a tok rfl (by omega) (by omega) rfl rfl rfl ?_ | refine aops_p tok rfl rfl rfl rfl ?_)
            rw [hcast]
            refine aops_callx Try.func37 rfl rfl rfl rfl (hih _) rfl rfl rfl ?_
            repeat (first | refine aops_end ?_ | refine aops_p tok rfl rfl rfl rfl ?_ | refine acode_seq ?_ | refine acode_region ?_ | refine acode_block ?_)
            generalize hkyv : kyOf s fr j = ky at *
            refine acode_loopS (ι := Nat × Option Nat × Nat) (fun p => [(0, .pp (chC g ks N n F)), (1, .int .i64 r), (2, .psl (s :: l).length (ints (s :: l))), (3, .int .i64 fr), (4, .int .i64 to), (5, .int .i64 m), (13, .own p.2.1 (out.length + p.1) p.2.2), (14, .int .i64 j), (15, .pp (f3C ky)), (17, .psl rest.length (encs (wyC r) rest)), (18, .int .i64 p.1)]) (fun p => ⟨p.2.1, p.2.2 * 2, encs (wyC r) (out ++ (rest.take p.1).map (ky :: ·))⟩ :: M) (fun p => rest.length - p.1) (fun p => p.1 ≤ rest.length) (0, ob, cap) (Nat.zero_le _) ⟨rfl, rfl, rfl, rfl, rfl, rfl, rfl, rfl, rfl, rfl, rfl, trivial⟩ (by simp) ?_
            rintro ⟨i, ob, cap⟩ hi
            simp only at hi ⊢
            repeat (first | refine aops_end ?_ | refine aops_p tok rfl rfl rfl rfl ?_ | refine acode_seq ?_ | refine acode_region ?_)
            refine acode_id rfl (fun e => ?_) (fun e => ?_)
            · have hil : i < rest.length := by omega
              obtain ⟨w, hw⟩ : ∃ w, rest[i]? = some w := ⟨rest[i], List.getElem?_eq_getElem hil⟩
              have hwl := hwid w (List.mem_of_getElem? hw)
              have hln : (out ++ (rest.take i).map (ky :: ·)).length = out.length + i := by simp; omega
              have htk : out ++ (rest.take (i + 1)).map (ky :: ·) = (out ++ (rest.take i).map (ky :: ·)) ++ [ky :: w] := by rw [List.take_add_one, hw]; simp
              generalize out ++ (rest.take i).map (ky :: ·) = cur at *
              repeat (first | refine acode_seq ?_ | refine acode_block ?_ | refine acode_skip ?_ | refine then_n ?_)
              refine acode_drawP [] 13 [0, 1, 2, 4, 5, 6, 7, 8, 3, 9, 10, 11, 12] [8, 9, 12] mixed (by kernel_rfl) (by kernel_rfl) rfl ?_
              repeat (refine seqO_p tok rfl rfl rfl rfl rfl ?_)
              refine seqO_ix tok (wyC r w) rfl rfl rfl rfl rfl (by omega) (by omega) (by simp [wyC]) (encs_at (e := wyC r) (s := 2) (fun _ => rfl) (i := (i : Int).toNat) (by simpa using hw)) rfl rfl rfl ?_
              repeat (refine seqO_p tok rfl rfl rfl rfl rfl ?_)
              refine seqO_lito tok rfl rfl rfl rfl rfl (by simp) rfl rfl rfl fun lb => ?_
              refine seqO_appz tok 0 (m := w.length) rfl rfl rfl rfl rfl rfl rfl rfl (by rw [encs_len (e := f3C) (s := 3) (fun _ => rfl)]) (encs_cell (fun _ => rfl) _) rfl (by show _ * 24 ≤ _; omega) (by omega) (by simp) rfl rfl rfl ?_
              repeat (refine seqO_p tok rfl rfl rfl rfl rfl ?_)
              refine seqO_lit tok rfl rfl rfl rfl rfl rfl rfl rfl rfl ?_
              refine seqO_app tok 0 (m := 1) rfl rfl rfl rfl (.inl rfl) rfl rfl (by rw [encs_len (wyC_len r), hln]) rfl rfl rfl (by show _ * 32 ≤ _; omega) (by omega) (by simp) rfl rfl rfl fun ob' cap' => ?_
              refine SeqO.done ?_
              repeat (first | refine aops_end ?_ | refine aops_endb ?_ | refine aops_a tok rfl (by omega) (by omega) rfl rfl rfl ?_ | refine aops_p tok rfl rfl rfl rfl ?_ | refine acode_region ?_ | refine then_n ?_)
              exact ⟨(i + 1, ob', cap'), by simp only; omega, by simp only; omega, ⟨rfl, rfl, rfl, rfl, rfl, rfl, by show A.own _ _ _ = A.own _ _ _; rw [Nat.add_assoc], rfl, rfl, rfl, rfl, trivial⟩, by simp only [htk, encs_app]; rw [show encs (wyC r) [ky :: w] = [.int .i64 r, .psl (1 + w.length) (f3C ky ++ encs f3C w)] from by simp [encs, wyC, Nat.add_comm]]; rfl⟩
            · obtain rfl : i = rest.length := by omega
              rw [List.take_length]
              refine acode_exit ?_
              repeat (first | refine exit_then ?_ | refine exit_here ?_ | refine then_n ?_ | refine block_n ?_)
              repeat (first | refine aops_end ?_ | refine aops_a tok rfl (by omega) (by omega) rfl rfl rfl ?_ | refine aops_p tok rfl rfl rfl rfl ?_ | refine acode_region ?_)
              exact ⟨(j + 1, out ++ rest.map (ky :: ·), ob, cap), ⟨by simp only; omega, by simpa using h1, h2⟩, by simp only; omega, ⟨rfl, rfl, rfl, rfl, rfl, rfl, by simp only [List.length_append, List.length_map]; rfl, rfl, trivial⟩, rfl⟩
      · rw [waysL_full hom] at hfin
        repeat' (first | refine aops_end ?_ | refine aops_pbt tok rfl (by first | omega | decide) rfl rfl rfl ?_ | refine aops_pbf tok rfl (by first | omega | decide) rfl rfl rfl ?_ | refine aops_p tok rfl rfl rfl rfl ?_ | refine acode_if rfl ?_ | refine acode_seq ?_ | refine acode_region ?_)
        refine acode_exit ?_
        repeat (first | refine exit_then ?_ | refine exit_here ?_ | refine then_n ?_)
        repeat (first | refine aops_end ?_ | refine aops_p tok rfl rfl rfl rfl ?_ | refine acode_seq ?_ | refine acode_region ?_)
        refine acode_pub0 12 2 rfl rfl (encs_len (wyC_len r) out) rfl ?_
        refine acode_ret ?_
        skip
        exact ⟨_, ⟨rfl, rfl⟩, resOf_tmp (by rw [← hfin]; rfl)⟩
    · rw [List.drop_of_length_le (by simp; omega), List.foldl_nil] at hfin
      repeat' (first | refine aops_end ?_ | refine aops_o rfl rfl rfl ?_ | refine aops_pbf tok rfl (by first | omega | decide) rfl rfl rfl ?_ | refine aops_p tok rfl rfl rfl rfl ?_ | refine acode_if rfl ?_ | refine acode_seq ?_ | refine acode_region ?_)
      refine acode_exit ?_
      repeat (first | refine exit_then ?_ | refine exit_here ?_ | refine then_n ?_)
      repeat (first | refine aops_end ?_ | refine aops_p tok rfl rfl rfl rfl ?_ | refine acode_seq ?_ | refine acode_region ?_)
      refine acode_pub0 12 2 rfl rfl (encs_len (wyC_len r) out) rfl ?_
      refine acode_ret ?_
      skip
      exact ⟨_, ⟨rfl, rfl⟩, resOf_tmp (by rw [← hfin]; rfl)⟩
end Go.Proofs.Ytbnhmioijeagiaa.Ab
/- Forests in plain terms: which nodes come to no ring, and what is told of a node out of its kids. No condition. -/
set_option linter.unusedVariables false
set_option linter.unusedSimpArgs false
namespace Go.Proofs.Ytbnhmioijeagiaa.Ab
structure Al where
  rule : Int
  kids : List Int
structure Nd where
  sym : Int
  fr : Int
  to : Int
  alts : List Al
structure Fo where
  nodes : List Nd
  root : Int
def alC (a : Al) : List A := [.int .i64 a.rule, .psl a.kids.length (ints a.kids)]
def ndC (n : Nd) : List A := [.int .i64 n.sym, .int .i64 n.fr, .int .i64 n.to, .psl n.alts.length (encs alC n.alts)]
def foC (f : Fo) : List A := [.psl f.nodes.length (encs ndC f.nodes), .int .i64 f.root]
def foA (f : Fo) : A := .agg (foC f)

def altsOf (f : Fo) (i : Nat) : List Al := (f.nodes[i]?.map (·.alts)).getD []
def Kid (f : Fo) (i : Nat) (k : Int) : Prop := ∃ a ∈ altsOf f i, k ∈ a.kids
/-- A node that comes to no ring and to no kid that is none. -/
inductive WF (f : Fo) : Nat → Prop
  | mk {i : Nat} (hi : i < f.nodes.length) (hk : ∀ k, Kid f i k → k < f.nodes.length) (hs : ∀ k : Nat, Kid f i k → WF f k) : WF f i
inductive Rch (f : Fo) : Nat → Nat → Prop
  | one {i k : Nat} (h : Kid f i k) : Rch f i k
  | cons {i j k : Nat} (h : Kid f i j) (t : Rch f j k) : Rch f i k
theorem WF.lt {f : Fo} {i : Nat} (h : WF f i) : i < f.nodes.length := by cases h; assumption
theorem WF.kid {f : Fo} {i k : Nat} (h : WF f i) (hk : Kid f i k) : WF f k := by cases h with | mk _ _ hs => exact hs k hk
theorem WF.small {f : Fo} {i : Nat} {k : Int} (h : WF f i) (hk : Kid f i k) : k < f.nodes.length := by cases h with | mk _ h2 _ => exact h2 k hk
theorem Rch.snoc {f : Fo} {i j k : Nat} (h : Rch f i j) (hk : Kid f j k) : Rch f i k := by
  induction h with
  | one h => exact .cons h (.one hk)
  | cons h _ ih => exact .cons h (ih hk)
theorem WF.noring {f : Fo} {i : Nat} (h : WF f i) : ¬ Rch f i i := by
  induction h with
  | mk hi hk hs ih =>
    intro r
    cases r with
    | one h => exact ih _ h (.one h)
    | cons h t => exact ih _ h (t.snoc h)
/-- That a kid of a node is below it. -/
def Bel (f : Fo) (k i : Nat) : Prop := WF f i ∧ Kid f i k
theorem WF.acc {f : Fo} {i : Nat} (h : WF f i) : Acc (Bel f) i := by
  induction h with
  | mk hi hk hs ih => exact ⟨_, fun k ⟨_, h⟩ => ih k h⟩
theorem bel_wf (f : Fo) : WellFounded (Bel f) := ⟨fun i => ⟨i, fun k ⟨h, hk⟩ => (h.kid hk).acc⟩⟩
/-- What is told of each node out of what is told of its kids. -/
theorem recT {α : Type} [Inhabited α] {f : Fo} (F : (Nat → α) → Nat → α) (hF : ∀ g h i, (∀ k : Nat, Kid f i k → g k = h k) → F g i = F h i) : ∃ T : Nat → α, ∀ i, WF f i → T i = F T i := by
  classical
  refine ⟨(bel_wf f).fix fun i rec => F (fun k => if h : Bel f k i then rec k h else default) i, fun i hi => ?_⟩
  rw [WellFounded.fix_eq]
  exact hF _ _ i fun k hk => by rw [dif_pos ⟨hi, hk⟩]
theorem recT_one {α : Type} {f : Fo} {F : (Nat → α) → Nat → α} (hF : ∀ g h i, (∀ k : Nat, Kid f i k → g k = h k) → F g i = F h i) {T S : Nat → α} (hT : ∀ i, WF f i → T i = F T i) (hS : ∀ i, WF f i → S i = F S i) {i : Nat} (h : WF f i) : T i = S i := by
  induction h with
  | @mk i hi hk hs ih => rw [hT i (.mk hi hk hs), hS i (.mk hi hk hs)]; exact hF _ _ i fun k hk => ih k hk

/-! ### an order in which each stands behind its kids -/
inductive Topo (f : Fo) : List Nat → Prop
  | nil : Topo f []
  | snoc {l : List Nat} {i : Nat} (h : Topo f l) (hi : i < f.nodes.length) (hn : i ∉ l) (hb : ∀ k, Kid f i k → k < f.nodes.length) (hk : ∀ k : Nat, Kid f i k → k ∈ l) : Topo f (l ++ [i])
theorem Topo.lt {f : Fo} {l : List Nat} (h : Topo f l) : ∀ i ∈ l, i < f.nodes.length := by
  induction h with
  | nil => simp
  | snoc h hi hn hb hk ih => intro j hj; simp only [List.mem_append, List.mem_singleton] at hj; rcases hj with hj | rfl; exact ih j hj; exact hi
theorem Topo.nodup {f : Fo} {l : List Nat} (h : Topo f l) : l.Nodup := by
  induction h with
  | nil => exact List.nodup_nil
  | snoc h hi hn hb hk ih => rw [List.nodup_append]; exact ⟨ih, by simp, fun a ha b hb e => by simp only [List.mem_singleton] at hb; subst hb; subst e; exact hn ha⟩
theorem Topo.wf {f : Fo} {l : List Nat} (h : Topo f l) : ∀ i ∈ l, WF f i := by
  induction h with
  | nil => simp
  | snoc h hi hn hb hk ih => intro j hj; simp only [List.mem_append, List.mem_singleton] at hj; rcases hj with hj | rfl; exact ih j hj; exact .mk hi hb fun k h => ih k (hk k h)
theorem Topo.len {f : Fo} {l : List Nat} (h : Topo f l) : l.length ≤ f.nodes.length := by
  have := List.Nodup.length_le_of_subset h.nodup (l₂ := List.range f.nodes.length) (fun i hi => by simpa using h.lt i hi)
  simpa using this
theorem Topo.pre {f : Fo} {l : List Nat} (h : Topo f l) : ∀ {a b : List Nat} {i : Nat}, l = a ++ i :: b → Topo f a ∧ i ∉ a ∧ ∀ k : Nat, Kid f i k → k ∈ a := by
  induction h with
  | nil => intro a b i e; simp at e
  | @snoc l j h hi hn hb hk ih =>
    intro a b i e
    rcases List.eq_nil_or_concat b with rfl | ⟨b', x, rfl⟩
    · have := List.append_inj' (s₁ := l) (t₁ := [j]) (s₂ := a) (t₂ := [i]) e rfl
      obtain ⟨rfl, e2⟩ := this
      cases e2
      exact ⟨h, hn, hk⟩
    · have := List.append_inj' (s₁ := l) (t₁ := [j]) (s₂ := a ++ i :: b') (t₂ := [x]) (by rw [e]; simp) rfl
      exact ih this.1
/-! ### how many trees -/
def great : Int := 4611686018427387903
def addN (a b : Int) : Int := if a > great - b then great else a + b
def mulN (a b : Int) : Int := if a = 0 ∨ b = 0 then 0 else if a > great / b then great else a * b
def isN (a : Int) : Prop := 0 ≤ a ∧ a ≤ great
theorem addN_is {a b : Int} (ha : isN a) (hb : isN b) : isN (addN a b) := by
  obtain ⟨a0, a1⟩ := ha; obtain ⟨b0, b1⟩ := hb
  unfold isN addN; split
  · exact ⟨by decide, by omega⟩
  · exact ⟨by omega, by omega⟩
theorem mul_le_of {a b : Int} (hb : 0 < b) (h : a ≤ great / b) : a * b ≤ great := by
  have := Int.ediv_mul_le great (b := b) (by omega)
  have h2 := Int.mul_le_mul_of_nonneg_right h (by omega : 0 ≤ b)
  omega
theorem mulN_is {a b : Int} (ha : isN a) (hb : isN b) : isN (mulN a b) := by
  obtain ⟨a0, a1⟩ := ha; obtain ⟨b0, b1⟩ := hb
  unfold isN mulN; split
  · exact ⟨by omega, by decide⟩
  · rename_i h
    split
    · exact ⟨by decide, by omega⟩
    · exact ⟨Int.mul_nonneg a0 b0, mul_le_of (by omega) (by omega)⟩
def altF (g : Nat → Int) (n0 : Int) (l : List Int) : Int := l.foldl (fun n k => if 0 ≤ k then mulN n (g k.toNat) else n) n0
def altsF (g : Nat → Int) (s0 : Int) (l : List Al) : Int := l.foldl (fun s a => addN s (altF g 1 a.kids)) s0
theorem altF_congr {g h : Nat → Int} : ∀ (l : List Int) (n0 : Int), (∀ k : Nat, (k : Int) ∈ l → g k = h k) → altF g n0 l = altF h n0 l
  | [], _, _ => rfl
  | k :: l, n0, hk => by
    have e : (if 0 ≤ k then mulN n0 (g k.toNat) else n0) = (if 0 ≤ k then mulN n0 (h k.toNat) else n0) := by
      split
      · rename_i h0; rw [hk k.toNat (by rw [Int.toNat_of_nonneg h0]; simp)]
      · rfl
    simp only [altF, List.foldl_cons, e]
    exact altF_congr l _ fun k hm => hk k (by simp [hm])
theorem altsF_congr {g h : Nat → Int} : ∀ (l : List Al) (s0 : Int), (∀ a ∈ l, ∀ k : Nat, (k : Int) ∈ a.kids → g k = h k) → altsF g s0 l = altsF h s0 l
  | [], _, _ => rfl
  | a :: l, s0, hk => by
    simp only [altsF, List.foldl_cons, altF_congr a.kids 1 (hk a (by simp))]
    exact altsF_congr l _ fun a hm => hk a (by simp [hm])
theorem altF_is {g : Nat → Int} : ∀ (l : List Int) (n0 : Int), isN n0 → (∀ k : Nat, (k : Int) ∈ l → isN (g k)) → isN (altF g n0 l)
  | [], _, h, _ => h
  | k :: l, n0, h, hk => by
    simp only [altF, List.foldl_cons]
    refine altF_is l _ ?_ fun k hm => hk k (by simp [hm])
    split
    · rename_i h0; exact mulN_is h (hk k.toNat (by rw [Int.toNat_of_nonneg h0]; simp))
    · exact h
theorem altsF_is {g : Nat → Int} : ∀ (l : List Al) (s0 : Int), isN s0 → (∀ a ∈ l, ∀ k : Nat, (k : Int) ∈ a.kids → isN (g k)) → isN (altsF g s0 l)
  | [], _, h, _ => h
  | a :: l, s0, h, hk => by
    simp only [altsF, List.foldl_cons]
    exact altsF_is l _ (addN_is h (altF_is _ _ ⟨by decide, by decide⟩ (hk a (by simp)))) fun a hm => hk a (by simp [hm])
theorem trees_ex (f : Fo) : ∃ T : Nat → Int, ∀ i, WF f i → T i = altsF T 0 (altsOf f i) :=
  recT (fun g i => altsF g 0 (altsOf f i)) fun g h i hk => altsF_congr _ _ fun a ha k hm => hk k ⟨a, ha, hm⟩
noncomputable def trees (f : Fo) : Nat → Int := Classical.choose (trees_ex f)
theorem trees_eq {f : Fo} {i : Nat} (h : WF f i) : trees f i = altsF (trees f) 0 (altsOf f i) := Classical.choose_spec (trees_ex f) i h
theorem trees_is {f : Fo} {i : Nat} (h : WF f i) : isN (trees f i) := by
  induction h with
  | @mk i hi hk hs ih => rw [trees_eq (.mk hi hk hs)]; exact altsF_is _ _ ⟨by decide, by decide⟩ fun a ha k hm => ih k ⟨a, ha, hm⟩
/-! ### how deep -/
def depK (g : Nat → Int) (d0 : Int) (l : List Int) : Int := l.foldl (fun d k => if 0 ≤ k then max d (g k.toNat) else d) d0
def depA (g : Nat → Int) (d0 : Int) (l : List Al) : Int := l.foldl (fun d a => depK g d a.kids) d0
theorem depK_congr {g h : Nat → Int} : ∀ (l : List Int) (n0 : Int), (∀ k : Nat, (k : Int) ∈ l → g k = h k) → depK g n0 l = depK h n0 l
  | [], _, _ => rfl
  | k :: l, n0, hk => by
    have e : (if 0 ≤ k then max n0 (g k.toNat) else n0) = (if 0 ≤ k then max n0 (h k.toNat) else n0) := by
      split
      · rename_i h0; rw [hk k.toNat (by rw [Int.toNat_of_nonneg h0]; simp)]
      · rfl
    simp only [depK, List.foldl_cons, e]
    exact depK_congr l _ fun k hm => hk k (by simp [hm])
theorem depA_congr {g h : Nat → Int} : ∀ (l : List Al) (s0 : Int), (∀ a ∈ l, ∀ k : Nat, (k : Int) ∈ a.kids → g k = h k) → depA g s0 l = depA h s0 l
  | [], _, _ => rfl
  | a :: l, s0, hk => by
    simp only [depA, List.foldl_cons, depK_congr a.kids s0 (hk a (by simp))]
    exact depA_congr l _ fun a hm => hk a (by simp [hm])
theorem depth_ex (f : Fo) : ∃ T : Nat → Int, ∀ i, WF f i → T i = depA T 0 (altsOf f i) + 1 :=
  recT (fun g i => depA g 0 (altsOf f i) + 1) fun g h i hk => by rw [depA_congr _ _ fun a ha k hm => hk k ⟨a, ha, hm⟩]
noncomputable def depth (f : Fo) : Nat → Int := Classical.choose (depth_ex f)
theorem depth_eq {f : Fo} {i : Nat} (h : WF f i) : depth f i = depA (depth f) 0 (altsOf f i) + 1 := Classical.choose_spec (depth_ex f) i h
theorem depK_b {g : Nat → Int} {m : Int} : ∀ (l : List Int) (d0 : Int), 0 ≤ d0 → d0 ≤ m → (∀ k : Nat, (k : Int) ∈ l → g k ≤ m) → 0 ≤ depK g d0 l ∧ depK g d0 l ≤ m
  | [], _, h0, h, _ => ⟨h0, h⟩
  | k :: l, d0, h0, h, hk => by
    simp only [depK, List.foldl_cons]
    refine depK_b l _ ?_ ?_ fun k hm => hk k (by simp [hm])
    · split <;> omega
    · split
      · rename_i hk0; have := hk k.toNat (by rw [Int.toNat_of_nonneg hk0]; simp); omega
      · exact h
theorem depA_b {g : Nat → Int} {m : Int} : ∀ (l : List Al) (d0 : Int), 0 ≤ d0 → d0 ≤ m → (∀ a ∈ l, ∀ k : Nat, (k : Int) ∈ a.kids → g k ≤ m) → 0 ≤ depA g d0 l ∧ depA g d0 l ≤ m
  | [], _, h0, h, _ => ⟨h0, h⟩
  | a :: l, d0, h0, h, hk => by
    simp only [depA, List.foldl_cons]
    have := depK_b a.kids d0 h0 h (hk a (by simp))
    exact depA_b l _ this.1 this.2 fun a hm => hk a (by simp [hm])
theorem Topo.depth {f : Fo} {l : List Nat} (h : Topo f l) : ∀ i ∈ l, 1 ≤ depth f i ∧ depth f i ≤ l.length := by
  induction h with
  | nil => simp
  | @snoc l j h hi hn hb hk ih =>
    intro i hm
    simp only [List.mem_append, List.mem_singleton] at hm
    rcases hm with hm | rfl
    · have := ih i hm; simp only [List.length_append, List.length_singleton]; omega
    · have hw : WF f i := .mk hi hb fun k hh => h.wf k (hk k hh)
      rw [depth_eq hw]
      have := depA_b (g := Ab.depth f) (m := l.length) (altsOf f i) 0 (by omega) (by omega) fun a ha k hm => (ih k (hk k ⟨a, ha, hm⟩)).2
      simp only [List.length_append, List.length_singleton]; omega
end Go.Proofs.Ytbnhmioijeagiaa.Ab
/- Forests as arguments. No condition. -/
set_option linter.unusedVariables false
set_option linter.unusedSimpArgs false
namespace Go.Proofs.Ytbnhmioijeagiaa.Ab
/-- How many Alts and kids there may be. -/
def FoOk (f : Fo) : Prop := f.nodes.length ≤ 2932031007402 ∧ ∀ n ∈ f.nodes, n.alts.length ≤ 4398046510976 ∧ ∀ a ∈ n.alts, a.kids.length ≤ 17592186043904
theorem good_al {f : Nat} {x : A} (h : Good T f 95 x) : ∃ a, x = .agg (alC a) ∧ a.kids.length ≤ 17592186043904 := by
  obtain ⟨f', ys, rfl, y0, _, rfl, g0, y1, _, rfl, g1, rfl⟩ := good_struct (fs := [(0, 3), (1, 24)]) rfl h
  obtain ⟨a, rfl, _⟩ := good_int (k := .i64) rfl g0
  obtain ⟨n, cs, e, hn⟩ := good_sliceS (e := 3) rfl rfl g1
  obtain ⟨l, rfl, hl⟩ := good_ints (e := 3) (k := .i64) rfl rfl g1
  simp only [A.psl.injEq] at e
  refine ⟨⟨a, l⟩, rfl, ?_⟩
  rw [← e.1] at hn
  have : l.length * 8 ≤ 140737488351232 := hn
  show l.length ≤ _
  omega
theorem good_nd {f : Nat} {x : A} (h : Good T f 93 x) : ∃ n, x = .agg (ndC n) ∧ (n.alts.length ≤ 4398046510976 ∧ ∀ a ∈ n.alts, a.kids.length ≤ 17592186043904) := by
  obtain ⟨f', ys, rfl, y0, _, rfl, g0, y1, _, rfl, g1, y2, _, rfl, g2, y3, _, rfl, g3, rfl⟩ := good_struct (fs := [(0, 3), (1, 3), (2, 3), (3, 91)]) rfl h
  obtain ⟨a, rfl, _⟩ := good_int (k := .i64) rfl g0
  obtain ⟨b, rfl, _⟩ := good_int (k := .i64) rfl g1
  obtain ⟨c, rfl, _⟩ := good_int (k := .i64) rfl g2
  obtain ⟨n, cs, e, hn⟩ := good_sliceS (e := 95) rfl rfl g3
  obtain ⟨rs, rfl, h3, h3'⟩ := good_encs (g := fun r => A.agg (alC r)) (c := alC) (p := fun r => r.kids.length ≤ 17592186043904) (e := 95) rfl (fun f y hy => good_al hy) (fun _ => rfl) g3
  simp only [A.psl.injEq] at e
  rw [← e.1] at hn
  have : rs.length * 32 ≤ 140737488351232 := hn
  exact ⟨⟨a, b, c, rs⟩, rfl, by show rs.length ≤ _; omega, h3'⟩
theorem good_fo {f : Nat} {x : A} (h : Good T f 33 x) : ∃ g, x = foA g ∧ (g.nodes.length ≤ 9223372036854775807 ∧ ∀ n ∈ g.nodes, n.alts.length ≤ 4398046510976 ∧ ∀ a ∈ n.alts, a.kids.length ≤ 17592186043904) := by
  obtain ⟨f', ys, rfl, y0, _, rfl, g0, y1, _, rfl, g1, rfl⟩ := good_struct (fs := [(0, 31), (1, 3)]) rfl h
  obtain ⟨rs, rfl, h3, h3'⟩ := good_encs (g := fun r => A.agg (ndC r)) (c := ndC) (p := fun n => n.alts.length ≤ 4398046510976 ∧ ∀ a ∈ n.alts, a.kids.length ≤ 17592186043904) (e := 93) rfl (fun f y hy => good_nd hy) (fun _ => rfl) g0
  obtain ⟨a, rfl, _⟩ := good_int (k := .i64) rfl g1
  exact ⟨⟨rs, a⟩, rfl, h3, h3'⟩
/-- The kids are numbers that an int holds. -/
def FoRng (f : Fo) : Prop := ∀ n ∈ f.nodes, ∀ a ∈ n.alts, ∀ k ∈ a.kids, rng k
theorem good_alR {f : Nat} {x : A} (h : Good T f 95 x) : ∃ a, x = .agg (alC a) ∧ (a.kids.length ≤ 17592186043904 ∧ ∀ k ∈ a.kids, rng k) := by
  obtain ⟨f', ys, rfl, y0, _, rfl, g0, y1, _, rfl, g1, rfl⟩ := good_struct (fs := [(0, 3), (1, 24)]) rfl h
  obtain ⟨a, rfl, _⟩ := good_int (k := .i64) rfl g0
  obtain ⟨n, cs, e, hn⟩ := good_sliceS (e := 3) rfl rfl g1
  obtain ⟨l, rfl, hl, hw⟩ := good_ints' (e := 3) (k := .i64) rfl rfl g1
  simp only [A.psl.injEq] at e
  rw [← e.1] at hn
  have : l.length * 8 ≤ 140737488351232 := hn
  exact ⟨⟨a, l⟩, rfl, by show l.length ≤ _; omega, fun k hk => wf_i64 (hw k hk)⟩
theorem good_ndR {f : Nat} {x : A} (h : Good T f 93 x) : ∃ n, x = .agg (ndC n) ∧ (n.alts.length ≤ 4398046510976 ∧ ∀ a ∈ n.alts, a.kids.length ≤ 17592186043904 ∧ ∀ k ∈ a.kids, rng k) := by
  obtain ⟨f', ys, rfl, y0, _, rfl, g0, y1, _, rfl, g1, y2, _, rfl, g2, y3, _, rfl, g3, rfl⟩ := good_struct (fs := [(0, 3), (1, 3), (2, 3), (3, 91)]) rfl h
  obtain ⟨a, rfl, _⟩ := good_int (k := .i64) rfl g0
  obtain ⟨b, rfl, _⟩ := good_int (k := .i64) rfl g1
  obtain ⟨c, rfl, _⟩ := good_int (k := .i64) rfl g2
  obtain ⟨n, cs, e, hn⟩ := good_sliceS (e := 95) rfl rfl g3
  obtain ⟨rs, rfl, h3, h3'⟩ := good_encs (g := fun r => A.agg (alC r)) (c := alC) (p := fun r => r.kids.length ≤ 17592186043904 ∧ ∀ k ∈ r.kids, rng k) (e := 95) rfl (fun f y hy => good_alR hy) (fun _ => rfl) g3
  simp only [A.psl.injEq] at e
  rw [← e.1] at hn
  have : rs.length * 32 ≤ 140737488351232 := hn
  exact ⟨⟨a, b, c, rs⟩, rfl, by show rs.length ≤ _; omega, h3'⟩
theorem good_foR {f : Nat} {x : A} (h : Good T f 33 x) : ∃ g, x = foA g ∧ FoOk g ∧ FoRng g := by
  obtain ⟨f', ys, rfl, y0, _, rfl, g0, y1, _, rfl, g1, rfl⟩ := good_struct (fs := [(0, 31), (1, 3)]) rfl h
  obtain ⟨n, cs, e, hn⟩ := good_sliceS (e := 93) rfl rfl g0
  obtain ⟨rs, rfl, h3, h3'⟩ := good_encs (g := fun r => A.agg (ndC r)) (c := ndC) (p := fun n => n.alts.length ≤ 4398046510976 ∧ ∀ a ∈ n.alts, a.kids.length ≤ 17592186043904 ∧ ∀ k ∈ a.kids, rng k) (e := 93) rfl (fun f y hy => good_ndR hy) (fun _ => rfl) g0
  obtain ⟨a, rfl, _⟩ := good_int (k := .i64) rfl g1
  simp only [A.psl.injEq] at e
  rw [← e.1] at hn
  have hn : rs.length * 48 ≤ 140737488351232 := hn
  exact ⟨⟨rs, a⟩, rfl, ⟨by show rs.length ≤ _; omega, fun n hn => ⟨(h3' n hn).1, fun a ha => ((h3' n hn).2 a ha).1⟩⟩, fun n hn a ha => ((h3' n hn).2 a ha).2⟩
end Go.Proofs.Ytbnhmioijeagiaa.Ab
/- Chapter 18's reference, in their order: the walk. No condition. -/
set_option linter.unusedVariables false
set_option linter.unusedSimpArgs false
namespace Go.Proofs.Ytbnhmioijeagiaa.Ab
section
variable {P : Program} {T : List TI} {N : Nat} {ops : Array Oper} {rest : List Oper} {o : Oper} {Q : Exit → St → Prop} {E F : Env} {M : List Ob}
theorem seqO_slc (hT : TOk P T) {kp : List Ob} {al : List Nat} {q : Nat} {ll : List Oper} {m d : Nat} (n' : Nat) (cs' : List A) {t e : Nat} {ei : TI} {x : Operand} {lo hi' : Option Operand} {n : Nat} {cs : List A} {l h' : Int} (hq : al.contains q = false) (ho : o.op = .slice t x lo hi' none) (hs : sliceOf T t = some (e, ei)) (hx : opA F x = .psl n cs)
    (hl : loOf F lo = some l) (hh : hiOf F n hi' = some h') (h0 : 0 ≤ l) (h1 : l ≤ h') (h2 : h' ≤ n) (hn' : n' = h'.toNat - l.toNat) (hcs : cs.length = n * ei.size) (hcs' : (cs.drop (l.toNat * ei.size)).take (n' * ei.size) = cs')
    (hg : guardOn ops o F = some true) (hd : o.dst = some d) (hN : Nat.blt d N = true) (next : SeqO P N ops Q kp al (q + 1) ((d, .psl n' cs') :: F) M m ll) : SeqO P N ops Q kp al q F M (m + 1) (o :: ll) :=
  seqO_y hq (fun M' => yields_slice hT ho hs hx hl hh h0 h1 h2 n' cs' hn' hcs hcs' hg (by rw [hd]; exact hN)) hd next
/-- append to nil, one's own, in a drawn region. -/
theorem seqO_appn (hT : TOk P T) {kp : List Ob} {al : List Nat} {i : Nat} {ll : List Oper} {mm : Nat} {t e d : Nat} {ei : TI} {s x : Operand} {m : Nat} {ds : List A} (hi : al.contains i = true) (ho : o.op = .call { callee := .builtin .append, args := #[s, x], argTypes := #[t, t] }) (hs : sliceOf T t = some (e, ei))
    (hsv : opA F s = .nils) (hx : opA F x = .psl m ds) (hds : ds.length = m * ei.size) (hcell : ds.all A.isCell = true)
    (hz : (Nat.beq ei.zero.length ei.size && Nat.blt 0 ei.size) = true) (hbytes : m * ei.bytes ≤ 140737488355328) (hlen : m ≤ 140737488355328) (hkp : ∀ o ∈ kp, o ∈ M) (hg : guardOn ops o F = some true) (hd : o.dst = some d) (hN : Nat.blt d N = true)
    (next : ∀ ob' cap', SeqO P N ops Q kp al (i + 1) ((d, .own ob' m cap') :: F) (⟨ob', cap' * ei.size, ds⟩ :: M) mm ll) : SeqO P N ops Q kp al i F M (mm + 1) (o :: ll) := by
  refine SeqO.make (x := fun z => .own (obZ z) m (capZ z)) (M2 := fun z => ⟨obZ z, capZ z * ei.size, ds⟩ :: M) hi (fun E hE rest Q next => ?_) (fun z o ho => List.mem_cons_of_mem _ (hkp o ho)) fun z => ?_
  · have e1 : ∀ y ∈ o.op.operands, opA E y = opA F y := fun y hy => agree_op hE hy
    refine aops_appn hT ho hs ((e1 s (by rw [ho]; simp [Op.operands, Call.operands])).trans hsv) ((e1 x (by rw [ho]; simp [Op.operands, Call.operands])).trans hx) hds hcell hz hbytes hlen ((agree_guard hE).trans hg) hd hN fun ob' cap' => ?_
    obtain ⟨z, rfl, rfl⟩ := z_of ob' cap'
    have nx := next z
    rw [hd] at nx
    exact nx
  · rw [hd]; exact next _ _
end
attribute [local irreducible] thenA inBlockA ACode AOps put IntKind.wrap

theorem encs_takeL {α : Type} {e : α → List A} {s : Nat} (hs : ∀ x, (e x).length = s) (l : List α) (k : Nat) : (encs e l).take (k * s) = encs e (l.take k) := by
  induction l generalizing k with
  | nil => simp [encs]
  | cons x l ih =>
    cases k with
    | zero => simp [encs]
    | succ k =>
      have := ih k
      simp only [encs, List.flatMap_cons, List.take_succ_cons] at *
      rw [Nat.add_mul, Nat.one_mul, Nat.add_comm, List.take_append, List.take_of_length_le (by rw [hs]; omega), hs, Nat.add_sub_cancel_left, this]
def lowK : List Int → List Int → Bool
  | x :: xs, y :: ys => if x ≠ y then decide (x < y) else lowK xs ys
  | xs, ys => decide (xs.length < ys.length)
def lowF (a b : Al) : Bool := if a.rule ≠ b.rule then decide (a.rule < b.rule) else lowK a.kids b.kids
theorem lowK_nil (xs ys : List Int) (h : xs = [] ∨ ys = []) : lowK xs ys = decide (xs.length < ys.length) := by
  rcases h with rfl | rfl
  · unfold lowK; rfl
  · cases xs <;> rfl
set_option maxHeartbeats 8000000 in
theorem lower_calls {a b : Al} (ha : a.kids.length ≤ 9223372036854775807) (hb : b.kids.length ≤ 9223372036854775807) (M : List Ob) :
    ACalls Try.prog 73 [.agg (alC a), .agg (alC b)] M (fun r M' => r = .bool (lowF a b) ∧ M' = M) := by
  refine acalls_of_code 59 Try.func73 rfl rfl rfl ?_
  repeat (first | refine acode_seq ?_ | refine acode_region ?_)
  refine aops_boxf rfl rfl rfl rfl rfl rfl rfl ?_
  skip
  refine aops_boxf rfl rfl rfl rfl rfl rfl rfl ?_
  by_cases hr : a.rule = b.rule
  · have hF : lowF a b = lowK a.kids b.kids := by unfold lowF; rw [if_neg (by simpa using hr)]
    rw [hF]
    repeat' (first | refine aops_end ?_ | (refine aops_pd tok rfl rfl rfl rfl ?_ ?_ <;> intro e_) | (refine aops_pn tok rfl rfl rfl rfl ?_ ?_ <;> intro e_) | refine aops_p tok rfl rfl rfl rfl ?_ | refine acode_it rfl ?_ | refine acode_if rfl ?_ | refine acode_seq ?_ | refine acode_region ?_ | refine acode_block ?_ | refine acode_skip ?_ | refine then_n ?_)
    any_goals (exfalso; omega)
    refine acode_loopS (ι := Nat) (fun i => [(2, .pp (alC a)), (3, .pp (alC b)), (5, .int .i64 i)]) (fun _ => M) (fun i => a.kids.length - i) (fun i => i ≤ a.kids.length ∧ i ≤ b.kids.length ∧ lowK (a.kids.drop i) (b.kids.drop i) = lowK a.kids b.kids) 0 ⟨Nat.zero_le _, Nat.zero_le _, rfl⟩ ⟨rfl, rfl, rfl, trivial⟩ rfl ?_
    rintro i ⟨hia, hib, hl⟩
    by_cases h1 : i < a.kids.length
    · by_cases h2 : i < b.kids.length
      · obtain ⟨x, hx⟩ : ∃ x, a.kids[i]? = some x := ⟨a.kids[i], List.getElem?_eq_getElem h1⟩
        obtain ⟨y, hy⟩ : ∃ y, b.kids[i]? = some y := ⟨b.kids[i], List.getElem?_eq_getElem h2⟩
        have hda : a.kids.drop i = x :: a.kids.drop (i + 1) := by
          rw [List.drop_eq_getElem_cons h1]
          rw [List.getElem?_eq_getElem h1] at hx
          rw [Option.some.inj hx]
        have hdb : b.kids.drop i = y :: b.kids.drop (i + 1) := by
          rw [List.drop_eq_getElem_cons h2]
          rw [List.getElem?_eq_getElem h2] at hy
          rw [Option.some.inj hy]
        rw [hda, hdb, lowK] at hl
        repeat' (first | refine aops_end ?_ | refine aops_pbt tok rfl (by first | omega | decide) rfl rfl rfl ?_ | refine aops_p tok rfl rfl rfl rfl ?_ | refine acode_it rfl ?_ | refine acode_seq ?_ | refine acode_region ?_ | refine acode_block ?_ | refine acode_skip ?_ | refine then_n ?_)
        refine acode_drawT 11 mixed (by kernel_rfl) (by kernel_rfl) ?_
        repeat (refine seqT_p tok rfl rfl rfl rfl ?_)
        refine seqT_ix tok [A.int .i64 x] rfl rfl rfl rfl (by omega) (by omega) (by simp) (ints_at (j := i) (by simpa using hx)) rfl rfl rfl ?_
        repeat (refine seqT_p tok rfl rfl rfl rfl ?_)
        refine seqT_ix tok [A.int .i64 y] rfl rfl rfl rfl (by omega) (by omega) (by simp) (ints_at (j := i) (by simpa using hy)) rfl rfl rfl ?_
        repeat' (first | (refine seqT_pn tok rfl rfl rfl rfl ?_ ?_ <;> intro e_) | refine seqT_p tok rfl rfl rfl rfl ?_)
        · refine SeqT.done ?_
          rw [if_pos e_] at hl
          repeat' (first | refine aops_end ?_ | refine acode_it rfl ?_ | refine acode_seq ?_)
          refine acode_drawT 11 mixed (by kernel_rfl) (by kernel_rfl) ?_
          repeat (refine seqT_p tok rfl rfl rfl rfl ?_)
          refine seqT_ix tok [A.int .i64 x] rfl rfl rfl rfl (by omega) (by omega) (by simp) (ints_at (j := i) (by simpa using hx)) rfl rfl rfl ?_
          repeat (refine seqT_p tok rfl rfl rfl rfl ?_)
          refine seqT_ix tok [A.int .i64 y] rfl rfl rfl rfl (by omega) (by omega) (by simp) (ints_at (j := i) (by simpa using hy)) rfl rfl rfl ?_
          repeat (refine seqT_p tok rfl rfl rfl rfl ?_)
          refine SeqT.done ?_
          repeat (first | refine aops_end ?_ | refine aops_p tok rfl rfl rfl rfl ?_)
          refine acode_ret ?_
          repeat (first | refine ret_then ?_ | refine ret_block ?_)
          exact ⟨_, ⟨rfl, rfl⟩, resOf_tmp (by rw [← hl]; rfl)⟩
        · refine SeqT.done ?_
          rw [if_neg (by simpa using e_)] at hl
          repeat' (first | refine aops_end ?_ | refine aops_a tok rfl (by omega) (by omega) rfl rfl rfl ?_ | refine aops_p tok rfl rfl rfl rfl ?_ | refine acode_if rfl ?_ | refine acode_region ?_ | refine acode_skip ?_ | refine then_n ?_ | refine block_n ?_)
          exact ⟨i + 1, ⟨by omega, by omega, hl⟩, by omega, ⟨rfl, rfl, rfl, trivial⟩, rfl⟩
      · have hn := lowK_nil (a.kids.drop i) (b.kids.drop i) (.inr (List.drop_of_length_le (by omega)))
        rw [hl] at hn
        repeat' (first | refine aops_end ?_ | refine aops_pbt tok rfl (by first | omega | decide) rfl rfl rfl ?_ | refine aops_pbf tok rfl (by first | omega | decide) rfl rfl rfl ?_ | refine aops_p tok rfl rfl rfl rfl ?_ | refine acode_if rfl ?_ | refine acode_seq ?_ | refine acode_region ?_)
        refine acode_exit ?_
        repeat (first | refine exit_then ?_ | refine exit_here ?_ | refine then_n ?_)
        repeat' (first | refine aops_end ?_ | (refine aops_pd tok rfl rfl rfl rfl ?_ ?_ <;> intro e_) | refine aops_p tok rfl rfl rfl rfl ?_ | refine acode_seq ?_ | refine acode_region ?_)
        all_goals
          refine acode_ret ?_
          skip
          refine ⟨.bool (lowK a.kids b.kids), ⟨rfl, rfl⟩, resOf_tmp ?_⟩
          rw [hn, List.length_drop, List.length_drop]
          first | exact bt (by omega) | exact bf (by omega)
    · have hn := lowK_nil (a.kids.drop i) (b.kids.drop i) (.inl (List.drop_of_length_le (by omega)))
      rw [hl] at hn
      repeat' (first | refine aops_end ?_ | refine aops_o rfl rfl rfl ?_ | refine aops_pbf tok rfl (by first | omega | decide) rfl rfl rfl ?_ | refine aops_p tok rfl rfl rfl rfl ?_ | refine acode_if rfl ?_ | refine acode_seq ?_ | refine acode_region ?_)
      refine acode_exit ?_
      repeat (first | refine exit_then ?_ | refine exit_here ?_ | refine then_n ?_)
      repeat' (first | refine aops_end ?_ | (refine aops_pd tok rfl rfl rfl rfl ?_ ?_ <;> intro e_) | refine aops_p tok rfl rfl rfl rfl ?_ | refine acode_seq ?_ | refine acode_region ?_)
      all_goals
        refine acode_ret ?_
        skip
        refine ⟨.bool (lowK a.kids b.kids), ⟨rfl, rfl⟩, resOf_tmp ?_⟩
        rw [hn, List.length_drop, List.length_drop]
        first | exact bt (by omega) | exact bf (by omega)
  · have hF : lowF a b = decide (a.rule < b.rule) := by unfold lowF; rw [if_pos hr]
    rw [hF]
    repeat' (first | refine aops_end ?_ | (refine aops_pd tok rfl rfl rfl rfl ?_ ?_ <;> intro e_) | (refine aops_pn tok rfl rfl rfl rfl ?_ ?_ <;> intro e_) | refine aops_p tok rfl rfl rfl rfl ?_ | refine acode_it rfl ?_ | refine acode_if rfl ?_ | refine acode_seq ?_ | refine acode_region ?_ | refine acode_block ?_ | refine acode_skip ?_ | refine then_n ?_)
    any_goals (exfalso; omega)
    all_goals
      refine acode_ret ?_
      repeat (refine ret_then ?_)
      exact ⟨.bool (decide (a.rule < b.rule)), ⟨rfl, rfl⟩, resOf_tmp (by first | exact bt (by omega) | exact bf (by omega))⟩
end Go.Proofs.Ytbnhmioijeagiaa.Ab
/- Chapter 18's reference, sorted: the walk. No condition. -/
set_option linter.unusedVariables false
set_option linter.unusedSimpArgs false
namespace Go.Proofs.Ytbnhmioijeagiaa.Ab
attribute [local irreducible] thenA inBlockA ACode AOps put IntKind.wrap

def insK {α : Type} (lt : α → α → Bool) (x : α) : List α → List α
  | [] => [x]
  | y :: l => if lt y x then y :: insK lt x l else x :: y :: l
def sortK {α : Type} (lt : α → α → Bool) (l : List α) : List α := l.foldl (fun out x => insK lt x out) []
theorem insK_len {α : Type} (lt : α → α → Bool) (x : α) : ∀ l : List α, (insK lt x l).length = l.length + 1
  | [] => rfl
  | y :: l => by
    unfold insK; split
    · rw [List.length_cons, insK_len lt x l]; rfl
    · rfl
theorem insK_mem {α : Type} (lt : α → α → Bool) (x : α) : ∀ (l : List α) {z : α}, z ∈ insK lt x l ↔ z = x ∨ z ∈ l
  | [], z => by simp [insK]
  | y :: l, z => by
    unfold insK; split
    · simp only [List.mem_cons, insK_mem lt x l]
      constructor
      · rintro (h | h | h) <;> simp [h]
      · rintro (h | h | h) <;> simp [h]
    · simp
theorem encs_cut {α : Type} {e : α → List A} {s : Nat} (hs : ∀ x, (e x).length = s) (l : List α) (k : Nat) : ((encs e l).drop ((0 : Int).toNat * s)).take ((l.take k).length * s) = encs e (l.take k) := by
  rw [show (0 : Int).toNat * s = 0 by simp, List.drop_zero, encs_takeL hs, List.length_take]
  congr 1
  by_cases h : k ≤ l.length
  · rw [Nat.min_eq_left h]
  · rw [Nat.min_eq_right (by omega), List.take_of_length_le (by omega), List.take_of_length_le (by omega)]
theorem encs_rest {α : Type} {e : α → List A} {s : Nat} (hs : ∀ x, (e x).length = s) (l : List α) (k : Nat) {j : Int} (hj : j.toNat = k) : ((encs e l).drop (j.toNat * s)).take ((l.drop k).length * s) = encs e (l.drop k) := by
  rw [hj, encs_drop hs]
  exact List.take_of_length_le (by rw [encs_len hs]; exact Nat.le_refl _)
theorem alK_len (a : Al) : (alC a).length = 2 := rfl

set_option maxHeartbeats 8000000 in
theorem sorted_calls {l : List Al} (hl : l.length ≤ 1000000000) (hk : ∀ a ∈ l, a.kids.length ≤ 9223372036854775807) (M : List Ob) :
    ACalls Try.prog 40 [.psl l.length (encs alC l)] M (fun r M' => r = .psl (sortK lowF l).length (encs alC (sortK lowF l)) ∧ M' = M) := by
  refine acalls_of_code 44 Try.func40 rfl rfl rfl ?_
  repeat (first | refine aops_end ?_ | refine aops_p tok rfl rfl rfl rfl ?_ | refine acode_seq ?_ | refine acode_region ?_ | refine acode_block ?_)
  refine acode_freezeV (V := []) [(0, .psl l.length (encs alC l)), (3, .psl 0 []), (4, .int .i64 0)] ⟨.refl _, .nils, .refl _, trivial⟩ ?_
  have hfin : l.foldl (fun out x => insK lowF x out) [] = sortK lowF l := rfl
  generalize sortK lowF l = fin at *
  refine acode_loopS (ι := Nat × List Al) (fun p => [(0, .psl l.length (encs alC l)), (3, .psl p.2.length (encs alC p.2)), (4, .int .i64 p.1)]) (fun _ => M) (fun p => l.length - p.1) (fun p => p.1 ≤ l.length ∧ p.2.length = p.1 ∧ (∀ a ∈ p.2, a ∈ l) ∧ (l.drop p.1).foldl (fun out x => insK lowF x out) p.2 = fin) (0, []) ⟨Nat.zero_le _, rfl, by simp, hfin⟩ ⟨rfl, rfl, rfl, trivial⟩ rfl ?_
  clear hfin
  rintro ⟨i, out⟩ ⟨hi, hol, hom, hfold⟩
  simp only at hi hol hom hfold ⊢
  repeat (first | refine aops_end ?_ | refine aops_p tok rfl rfl rfl rfl ?_ | refine acode_seq ?_ | refine acode_region ?_)
  refine acode_id rfl (fun e => ?_) (fun e => ?_)
  · have hil : i < l.length := by omega
    obtain ⟨x, hx⟩ : ∃ x, l[i]? = some x := ⟨l[i], List.getElem?_eq_getElem hil⟩
    have hxm := List.mem_of_getElem? hx
    have hdx : l.drop i = x :: l.drop (i + 1) := by
      rw [List.drop_eq_getElem_cons hil]
      rw [List.getElem?_eq_getElem hil] at hx
      rw [Option.some.inj hx]
    rw [hdx, List.foldl_cons] at hfold
    have hil2 := insK_len lowF x out
    have him := fun z => insK_mem lowF x out (z := z)
    repeat (first | refine acode_seq ?_ | refine acode_region ?_ | refine acode_block ?_ | refine acode_skip ?_ | refine then_n ?_ | refine block_n ?_)
    repeat (refine aops_p tok rfl rfl rfl rfl ?_)
    refine aops_end ?_
    refine acode_seq ?_
    refine acode_joinI (ι := Nat) (fun k => [(0, .psl l.length (encs alC l)), (3, .psl out.length (encs alC out)), (4, .int .i64 i), (5, .int .i64 k)]) (fun _ => M) (fun k => k ≤ out.length ∧ insK lowF x out = out.take k ++ x :: out.drop k) ?_ ?_
    · repeat (refine acode_block ?_)
      refine acode_loopS (ι := Nat) (fun k => [(0, .psl l.length (encs alC l)), (3, .psl out.length (encs alC out)), (4, .int .i64 i), (5, .int .i64 k)]) (fun _ => M) (fun k => out.length - k) (fun k => k ≤ out.length ∧ insK lowF x out = out.take k ++ insK lowF x (out.drop k)) 0 ⟨Nat.zero_le _, by simp⟩ ⟨rfl, rfl, rfl, rfl, trivial⟩ rfl ?_
      rintro k ⟨hk1, hk2⟩
      by_cases hkl : k < out.length
      · obtain ⟨y, hy⟩ : ∃ y, out[k]? = some y := ⟨out[k], List.getElem?_eq_getElem hkl⟩
        have hym := hom y (List.mem_of_getElem? hy)
        have hdy : out.drop k = y :: out.drop (k + 1) := by
          rw [List.drop_eq_getElem_cons hkl]
          rw [List.getElem?_eq_getElem hkl] at hy
          rw [Option.some.inj hy]
        rw [hdy, insK] at hk2
        repeat (refine acode_seq ?_)
        refine acode_drawT 15 mixed (by kernel_rfl) (by kernel_rfl) ?_
        repeat' (first | refine seqT_o rfl rfl rfl ?_ | (refine seqT_pd tok rfl rfl rfl rfl ?_ ?_ <;> intro e_) | refine seqT_p tok rfl rfl rfl rfl ?_)
        any_goals (exfalso; omega)
        refine seqT_ix tok (alC y) rfl rfl rfl rfl (by omega) (by omega) (by simp [alC]) (encs_at (e := alC) (s := 2) (fun _ => rfl) (i := (k : Int).toNat) (by simpa using hy)) rfl rfl rfl ?_
        repeat (refine seqT_p tok rfl rfl rfl rfl ?_)
        refine seqT_ix tok (alC x) rfl rfl rfl rfl (by omega) (by omega) (by simp [alC]) (encs_at (e := alC) (s := 2) (fun _ => rfl) (i := (i : Int).toNat) (by simpa using hx)) rfl rfl rfl ?_
        repeat (refine seqT_p tok rfl rfl rfl rfl ?_)
        refine seqT_call _ Try.func73 rfl rfl rfl rfl (lower_calls (hk y hym) (hk x hxm) _) rfl rfl rfl ?_
        repeat (refine seqT_p tok rfl rfl rfl rfl ?_)
        refine SeqT.done ?_
        cases hlo : lowF y x with
        | true =>
          rw [hlo, if_pos rfl] at hk2
          repeat' (first | refine aops_end ?_ | refine aops_endb ?_ | refine aops_a tok rfl (by omega) (by omega) rfl rfl rfl ?_ | refine aops_p tok rfl rfl rfl rfl ?_ | refine acode_it rfl ?_ | refine acode_region ?_ | refine acode_block ?_ | refine acode_skip ?_ | refine then_n ?_)
          exact ⟨k + 1, ⟨by omega, by rw [hk2, List.take_add_one, hy]; simp⟩, by omega, ⟨rfl, rfl, rfl, rfl, trivial⟩, rfl⟩
        | false =>
          rw [hlo, if_neg (by simp)] at hk2
          repeat' (first | refine aops_end ?_ | refine acode_if rfl ?_)
          refine acode_exit ?_
          repeat (first | refine exit_then ?_ | refine exit_here ?_ | refine then_n ?_)
          exact ⟨k, ⟨hk1, by rw [hk2, hdy]⟩, ⟨rfl, rfl, rfl, rfl, trivial⟩, rfl⟩
      · rw [List.drop_of_length_le (show out.length ≤ k by omega), insK] at hk2
        repeat (refine acode_seq ?_)
        refine acode_drawT 15 mixed (by kernel_rfl) (by kernel_rfl) ?_
        repeat' (first | refine seqT_o rfl rfl rfl ?_ | (refine seqT_pd tok rfl rfl rfl rfl ?_ ?_ <;> intro e_) | refine seqT_p tok rfl rfl rfl rfl ?_)
        any_goals (exfalso; omega)
        refine SeqT.done ?_
        repeat' (first | refine aops_end ?_ | refine acode_if rfl ?_)
        refine acode_exit ?_
        repeat (first | refine exit_then ?_ | refine exit_here ?_ | refine then_n ?_)
        exact ⟨k, ⟨hk1, by rw [hk2, List.drop_of_length_le (by omega)]⟩, ⟨rfl, rfl, rfl, rfl, trivial⟩, rfl⟩
    rintro k ⟨hk1, hk2⟩
    rw [hk2] at hfold hil2 him
    skip
    refine acode_drawP [] 14 [0, 1, 2, 4, 5, 6, 7, 8, 10, 11, 12, 3, 9, 13] [11, 12, 13] mixed (by kernel_rfl) (by kernel_rfl) rfl ?_
    repeat (refine seqO_p tok rfl rfl rfl rfl rfl ?_)
    refine seqO_slc tok (out.take k).length (encs alC (out.take k)) rfl rfl rfl rfl rfl rfl (by omega) (by omega) (by omega) (by rw [List.length_take, Nat.min_eq_left hk1]; omega) (encs_len alK_len out) (encs_cut alK_len out k) rfl rfl rfl ?_
    repeat (refine seqO_p tok rfl rfl rfl rfl rfl ?_)
    refine seqO_ix tok (alC x) rfl rfl rfl rfl rfl (by omega) (by omega) (by simp [alC]) (encs_at (e := alC) (s := 2) (fun _ => rfl) (i := (i : Int).toNat) (by simpa using hx)) rfl rfl rfl ?_
    repeat (refine seqO_p tok rfl rfl rfl rfl rfl ?_)
    refine seqO_lit tok rfl rfl rfl rfl rfl rfl rfl rfl rfl ?_
    repeat (refine seqO_p tok rfl rfl rfl rfl rfl ?_)
    refine seqO_slc tok (out.drop k).length (encs alC (out.drop k)) rfl rfl rfl rfl rfl rfl (by omega) (by omega) (by omega) (by rw [List.length_drop]; omega) (encs_len alK_len out) (encs_rest alK_len out k (by omega)) rfl rfl rfl ?_
    refine seqO_appn tok rfl rfl rfl rfl rfl (encs_len alK_len _) (encs_cell (fun _ => rfl) _) rfl (by show _ * 32 ≤ _; rw [List.length_take]; omega) (by rw [List.length_take]; omega) (by simp) rfl rfl rfl fun ob' cap' => ?_
    refine seqO_app tok 0 (m := 1) (ds := alC x) rfl rfl rfl rfl (.inl rfl) rfl rfl (encs_len alK_len _) rfl rfl rfl (by show _ * 32 ≤ _; rw [List.length_take]; omega) (by rw [List.length_take]; omega) (by simp) rfl rfl rfl fun ob2 cap2 => ?_
    refine seqO_appz tok 0 (m := (out.drop k).length) (ds := encs alC (out.drop k)) rfl rfl rfl rfl rfl rfl rfl (by rw [List.length_append, encs_len alK_len]; show _ = _ * 2; rw [Nat.add_mul]; rfl) (encs_len alK_len _) (encs_cell (fun _ => rfl) _) rfl (by show _ * 32 ≤ _; rw [List.length_take, List.length_drop]; omega) (by rw [List.length_take, List.length_drop]; omega) (by simp) rfl rfl rfl ?_
    refine SeqO.done ?_
    repeat (first | refine aops_end ?_ | refine aops_endb ?_ | refine aops_a tok rfl (by omega) (by omega) rfl rfl rfl ?_ | refine aops_p tok rfl rfl rfl rfl ?_ | refine acode_region ?_ | refine then_n ?_)
    refine ⟨(i + 1, out.take k ++ x :: out.drop k), ⟨by simp only; omega, by simp only [hil2]; omega, fun a ha => ?_, hfold⟩, by simp only; omega, ⟨rfl, ?_, rfl, trivial⟩, rfl⟩
    · rcases (him a).1 ha with rfl | h
      · exact hxm
      · exact hom a h
    · show A.psl _ _ = A.psl _ _
      rw [encs_app]
      congr 1
      · simp; omega
      · simp [encs]
  · obtain rfl : i = l.length := by omega
    rw [List.drop_length, List.foldl_nil] at hfold
    subst hfold
    refine acode_exit ?_
    repeat (first | refine exit_then ?_ | refine exit_here ?_ | refine then_n ?_)
    repeat (first | refine aops_end ?_ | refine aops_p tok rfl rfl rfl rfl ?_ | refine acode_seq ?_ | refine acode_region ?_)
    refine acode_ret ?_
    skip
    exact ⟨_, ⟨rfl, rfl⟩, resOf_tmp rfl⟩
end Go.Proofs.Ytbnhmioijeagiaa.Ab
/- Chapter 17's reference, what is behind a point: the walk. No condition. -/
set_option linter.unusedVariables false
set_option linter.unusedSimpArgs false
namespace Go.Proofs.Ytbnhmioijeagiaa.Ab
attribute [local irreducible] thenA inBlockA ACode AOps put IntKind.wrap

def behF (g : Gr) (r a : Int) : Int × Bool := if r = -1 then (g.start, decide (a = 0)) else if 0 ≤ r ∧ r < g.rules.length ∧ 0 ≤ a ∧ a < (ruleAt g r).right.length then ((ruleAt g r).right.getD a.toNat 0, true) else (0, false)
def behA (x : Int × Bool) : A := .tup [.int .i64 x.1, .bool x.2]
set_option maxHeartbeats 8000000 in
theorem behind_calls {g : Gr} {r a : Int} (M : List Ob) :
    ACalls Try.prog 95 [grA g, .agg [.int .i64 r, .int .i64 a]] M (fun x M' => x = behA (behF g r a) ∧ M' = M) := by
  refine acalls_of_code 54 Try.func95 rfl rfl rfl ?_
  repeat (first | refine acode_seq ?_ | refine acode_region ?_)
  refine aops_boxf rfl rfl rfl rfl rfl rfl rfl ?_
  skip
  refine aops_boxf rfl rfl rfl rfl rfl rfl rfl ?_
  by_cases hr : r = -1
  · have hF : behF g r a = (g.start, decide (a = 0)) := by unfold behF; rw [if_pos hr]
    rw [hF]
    repeat' (first | refine aops_end ?_ | (refine aops_pd tok rfl rfl rfl rfl ?_ ?_ <;> intro e_) | refine aops_p tok rfl rfl rfl rfl ?_ | refine acode_it rfl ?_ | refine acode_if rfl ?_ | refine acode_seq ?_ | refine acode_region ?_ | refine acode_skip ?_ | refine then_n ?_)
    any_goals (exfalso; omega)
    refine acode_drawT 7 mixed (by kernel_rfl) (by kernel_rfl) ?_
    repeat' (first | (refine seqT_pd tok rfl rfl rfl rfl ?_ ?_ <;> intro e_) | refine seqT_p tok rfl rfl rfl rfl ?_)
    all_goals
      refine SeqT.done ?_
      repeat (refine aops_end ?_)
      refine acode_ret ?_
      repeat (refine ret_then ?_)
      exact ⟨behA (g.start, decide (a = 0)), ⟨rfl, rfl⟩, _, _, rfl, resOf_tmp rfl, resOf_tmp (by first | exact bt (by omega) | exact bf (by omega))⟩
  · have hF : behF g r a = if 0 ≤ r ∧ r < g.rules.length ∧ 0 ≤ a ∧ a < (ruleAt g r).right.length then ((ruleAt g r).right.getD a.toNat 0, true) else (0, false) := by unfold behF; rw [if_neg hr]
    rw [hF]
    repeat' (first | refine aops_end ?_ | (refine aops_pd tok rfl rfl rfl rfl ?_ ?_ <;> intro e_) | refine aops_p tok rfl rfl rfl rfl ?_ | refine acode_it rfl ?_ | refine acode_if rfl ?_ | refine acode_seq ?_ | refine acode_region ?_ | refine acode_skip ?_ | refine then_n ?_)
    any_goals (exfalso; omega)
    refine acode_drawT 29 mixed (by kernel_rfl) (by kernel_rfl) ?_
    repeat' (first | refine seqT_o rfl rfl rfl ?_ | (refine seqT_pd tok rfl rfl rfl rfl ?_ ?_ <;> intro e_) | refine seqT_p tok rfl rfl rfl rfl ?_)
    all_goals try
      (refine SeqT.done ?_
       repeat (refine aops_end ?_)
       rw [if_neg (by omega)]
       repeat' (first | refine aops_end ?_ | refine aops_p tok rfl rfl rfl rfl ?_ | refine acode_it rfl ?_ | refine acode_seq ?_ | refine acode_region ?_)
       refine acode_ret ?_
       repeat (refine ret_then ?_)
       exact ⟨_, ⟨rfl, rfl⟩, _, _, rfl, resOf_tmp rfl, resOf_tmp rfl⟩)
    have a0 : 0 ≤ r := by omega
    have a1 : r < g.rules.length := by omega
    refine seqT_ix tok (ruC (ruleAt g r)) rfl rfl rfl rfl a0 a1 (by simp [ruC]) (encs_at (e := ruC) (s := 3) (fun _ => rfl) (ruleAt_at a0 a1)) rfl rfl rfl ?_
    repeat' (first | (refine seqT_pd tok rfl rfl rfl rfl ?_ ?_ <;> intro e_) | refine seqT_p tok rfl rfl rfl rfl ?_)
    · refine SeqT.done ?_
      rw [if_neg (by omega)]
      repeat' (first | refine aops_end ?_ | refine aops_p tok rfl rfl rfl rfl ?_ | refine acode_it rfl ?_ | refine acode_seq ?_ | refine acode_region ?_)
      refine acode_ret ?_
      repeat (refine ret_then ?_)
      exact ⟨_, ⟨rfl, rfl⟩, _, _, rfl, resOf_tmp rfl, resOf_tmp rfl⟩
    · have b0 : 0 ≤ a := by omega
      have b1 : a < (ruleAt g r).right.length := by omega
      refine SeqT.done ?_
      rw [if_pos ⟨a0, a1, b0, b1⟩]
      repeat' (first | refine aops_end ?_ | refine acode_if rfl ?_ | refine acode_seq ?_ | refine acode_skip ?_ | refine then_n ?_)
      refine acode_drawT 11 mixed (by kernel_rfl) (by kernel_rfl) ?_
      repeat (refine seqT_p tok rfl rfl rfl rfl ?_)
      refine seqT_ix tok (ruC (ruleAt g r)) rfl rfl rfl rfl a0 a1 (by simp [ruC]) (encs_at (e := ruC) (s := 3) (fun _ => rfl) (ruleAt_at a0 a1)) rfl rfl rfl ?_
      repeat (refine seqT_p tok rfl rfl rfl rfl ?_)
      refine seqT_ix tok [A.int .i64 ((ruleAt g r).right.getD a.toNat 0)] rfl rfl rfl rfl b0 b1 (by simp) (ints_at (int_at b0 b1)) rfl rfl rfl ?_
      repeat (refine seqT_p tok rfl rfl rfl rfl ?_)
      refine SeqT.done ?_
      repeat (first | refine aops_end ?_ | refine aops_p tok rfl rfl rfl rfl ?_)
      refine acode_ret ?_
      skip
      exact ⟨_, ⟨rfl, rfl⟩, _, _, rfl, resOf_tmp rfl, resOf_tmp rfl⟩
end Go.Proofs.Ytbnhmioijeagiaa.Ab
/- Points held against each other; chapter 17's reference, has: the walk. No condition. -/
set_option linter.unusedVariables false
set_option linter.unusedSimpArgs false
namespace Go.Proofs.Ytbnhmioijeagiaa.Ab
section
variable {P : Program} {T : List TI} {N : Nat} {ops : Array Oper} {rest : List Oper} {o : Oper} {Q : Exit → St → Prop} {E F : Env} {M : List Ob}
theorem part_agg {s : Nat} {si : TI} (hs : TG P s si) (hk : si.k.isAgg = true) {l : List Int} {k : Nat} {m : List Int} (h : ((ints l).drop k).take si.size = ints m) (w : World) : (part s (l.map (Value.int .i64)).toArray k).run P w = .ok (.agg (m.map (Value.int .i64)).toArray) w := by
  obtain ⟨v, h1, h2⟩ := part_run (w := w) hs (ints_repL ⟨fun _ => [], fun _ => none, fun _ => False, fun _ => none⟩ l) (off := k) (r := .agg (ints m)) (by rw [hk]; simp [h])
  obtain ⟨vs, rfl, h3⟩ := h2
  rw [h1, ints_val h3]
theorem aops_eqpt (hT : TOk P T) {t t' d e s : Nat} {si : TI} {x y : Operand} (a b c a' b' c' : Int) (ho : o.op = .binOp .eql t x y t') (ht : kindOf T t = some (.struct [(0, s), (2, e)])) (hs : known T s = some si) (hsk : si.k = .struct [(0, e), (1, e)]) (hsz : si.size = 2) (he : kindOf T e = some (.int .i64)) (hB : eqstB P t = true) (hBs : eqstB P s = true) (hx : opA E x = .agg (ints [a, b, c])) (hy : opA E y = .agg (ints [a', b', c'])) (hg : guardOn ops o E = some true) (hd : o.dst = some d) (hN : Nat.blt d N = true)
    (next : AOps P N ops rest Q ⟨(d, .bool ([a, b, c] == [a', b', c'])) :: E, M⟩) : AOps P N ops (o :: rest) Q ⟨E, M⟩ := by
  refine aops_val hg (by rw [hd]; exact hN) (.bool ([a, b, c] == [a', b', c'])) M (fun K G av w hi => ?_) (by rw [hd]; exact next)
  have hrx := opA_rep hi x
  have hry := opA_rep hi y
  rw [hx] at hrx; rw [hy] at hry
  obtain ⟨vx, ex, rx⟩ := hrx
  obtain ⟨vy, ey, ry⟩ := hry
  have e1 := ints_val rx
  have e2 := ints_val ry
  subst e1; subst e2
  simp only [eqstB, Bool.and_eq_true, Bool.not_eq_true'] at hB hBs
  obtain ⟨⟨b1, b2⟩, b3⟩ := hB
  obtain ⟨⟨c1, c2⟩, c3⟩ := hBs
  obtain ⟨ti, hti, hk⟩ := Option.map_eq_some_iff.1 ht
  obtain ⟨k1, k2⟩ := known_spec hti
  obtain ⟨tk, ts, tb, tz⟩ := ti
  simp only at hk
  subst hk
  obtain ⟨gs, hu, hgs⟩ := und_struct (hT.get k1 k2)
  have hfo : P.fieldsOf t = gs := by simp [Program.fieldsOf, hu]
  obtain ⟨k5, k6⟩ := known_spec hs
  have hTs := hT.get k5 k6
  have hag : si.k.isAgg = true := by rw [hsk]; rfl
  obtain ⟨sk, ss, sb, sz⟩ := si
  simp only at hsk hsz
  subst hsk; subst hsz
  obtain ⟨hs2, hus, hhs⟩ := und_struct hTs
  have hfs : P.fieldsOf s = hs2 := by simp [Program.fieldsOf, hus]
  obtain ⟨ei, hei, hke⟩ := Option.map_eq_some_iff.1 he
  obtain ⟨k3, k4⟩ := known_spec hei
  have hTe := hT.get k3 k4
  have hlen : hs2.toList.length = 2 := by have := congrArg List.length hhs; simpa using this
  have hF := eqFields_ints hTe hke [a, b] [a', b'] 9997 w hs2.toList 0 (by rw [hlen]; exact hhs) (fun f hf => by
    have := Array.all_eq_true_iff_forall_mem.1 c1 f (by rw [hfs]; exact Array.mem_toList_iff.1 hf)
    simpa using this) (by simp [hlen]) (by simp [hlen])
  obtain ⟨f0, f1, hgl⟩ : ∃ f0 f1, gs.toList = [f0, f1] := by
    have hl2 : gs.toList.length = 2 := by have := congrArg List.length hgs; simpa using this
    generalize gs.toList = L at hl2
    match L, hl2 with
    | [f0, f1], _ => exact ⟨f0, f1, rfl⟩
  rw [hgl] at hgs
  simp only [List.map_cons, List.map_nil, List.cons.injEq, Prod.mk.injEq, and_true] at hgs
  obtain ⟨⟨o0, t0⟩, o1, t1⟩ := hgs
  have hn : ∀ f ∈ gs.toList, f.name ≠ "_" := fun f hf => by
    have := Array.all_eq_true_iff_forall_mem.1 b1 f (by rw [hfo]; exact Array.mem_toList_iff.1 hf)
    simpa using this
  have hu3 := und_int hTe hke
  refine ⟨.bool ([a, b, c] == [a', b', c']), w, G, ?_, hi.ok, G.le_refl, rfl⟩
  have hq : (binOp .eql t (.agg ([a, b, c].map (Value.int .i64)).toArray) (.agg ([a', b', c'].map (Value.int .i64)).toArray)).run P w = .ok (.bool ([a, b, c] == [a', b', c'])) w := by
    rw [run_eql_struct, run_equalIn_agg w 9999 t _ _ (by rw [hfo]; exact hu) b2, hfo, hgl]
    simp only [Op.eqFields, if_pos (hn f0 (by rw [hgl]; simp)), if_pos (hn f1 (by rw [hgl]; simp)), Sem.run_bind, o0, t0, o1, t1]
    rw [part_agg hTs hag (l := [a, b, c]) (k := 0) (m := [a, b]) rfl w]
    simp only [Result.andThen_ok]
    rw [part_agg hTs hag (l := [a', b', c']) (k := 0) (m := [a', b']) rfl w]
    simp only [Result.andThen_ok]
    rw [run_equalIn_agg w 9998 s _ _ (by rw [hfs]; exact hus) c2, hfs, hF]
    simp only [Result.andThen_ok, List.drop_zero]
    rw [show ([a, b, c] == [a', b', c']) = (([a, b] == [a', b']) && (c == c')) by rw [Bool.eq_iff_iff]; simp [and_assoc]]
    cases ([a, b] == [a', b']) with
    | false => simp
    | true =>
      simp only [Bool.not_true, Bool.false_eq_true, if_false, Bool.true_and, Sem.run_bind]
      rw [part_int hTe hke (l := [a, b, c]) (k := 2) (x := c) rfl w]
      simp only [Result.andThen_ok]
      rw [part_int hTe hke (l := [a', b', c']) (k := 2) (x := c') rfl w]
      simp only [Result.andThen_ok, run_equalIn_int w 9998 e .i64 .i64 _ _ hu3]
      cases (c == c') <;> simp
  simp only [execOp, ho, ex, ey, Sem.run_bind, Result.andThen_ok]
  rw [run_eqGuard_agg w .eql t x y _ _ b3]
  simp only [Result.andThen_ok]
  rw [hq]
  rfl
end
end Go.Proofs.Ytbnhmioijeagiaa.Ab
/- Chapter 17's reference, has and fill: the walk. No condition. -/
set_option linter.unusedVariables false
set_option linter.unusedSimpArgs false
namespace Go.Proofs.Ytbnhmioijeagiaa.Ab
section
variable {P : Program} {T : List TI} {N : Nat} {ops : Array Oper} {o : Oper} {F : Env} {M : List Ob}
theorem yields_eqpt (hT : TOk P T) {t t' d e s : Nat} {si : TI} {x y : Operand} (a b c a' b' c' : Int) (ho : o.op = .binOp .eql t x y t') (ht : kindOf T t = some (.struct [(0, s), (2, e)])) (hs : known T s = some si) (hsk : si.k = .struct [(0, e), (1, e)]) (hsz : si.size = 2) (he : kindOf T e = some (.int .i64)) (hB : eqstB P t = true) (hBs : eqstB P s = true) (hx : opA F x = .agg (ints [a, b, c])) (hy : opA F y = .agg (ints [a', b', c'])) (hg : guardOn ops o F = some true) (hd : o.dst = some d) (hN : Nat.blt d N = true) : Yields P N ops o (.bool ([a, b, c] == [a', b', c'])) F M := by
  intro E hE rest Q next
  rw [hd] at next
  exact aops_eqpt hT a b c a' b' c' ho ht hs hsk hsz he hB hBs ((agree_op hE (by rw [ho]; simp [Op.operands])).trans hx) ((agree_op hE (by rw [ho]; simp [Op.operands])).trans hy) ((agree_guard hE).trans hg) hd hN next
end
attribute [local irreducible] thenA inBlockA ACode AOps put IntKind.wrap

set_option maxHeartbeats 4000000 in
theorem rhas_calls {l : List Ky} {p : Ky} (hl : l.length ≤ 9223372036854775807) (M : List Ob) :
    ACalls Try.prog 107 [.psl l.length (encs f3C l), .agg (f3C p)] M (fun r M' => r = .bool (decide (p ∈ l)) ∧ M' = M) := by
  refine acalls_of_code 18 Try.func107 rfl rfl rfl ?_
  repeat (first | refine acode_seq ?_ | refine acode_region ?_)
  refine aops_boxf rfl rfl rfl rfl rfl rfl rfl ?_
  repeat (first | refine aops_end ?_ | refine aops_p tok rfl rfl rfl rfl ?_ | refine acode_seq ?_ | refine acode_region ?_ | refine acode_block ?_)
  refine acode_loopS (ι := Nat) (fun i => [(0, .psl l.length (encs f3C l)), (3, .pp (f3C p)), (5, .int .i64 i)]) (fun _ => M) (fun i => l.length - i) (fun i => i ≤ l.length ∧ p ∉ l.take i) 0 ⟨Nat.zero_le _, by simp⟩ ⟨rfl, rfl, rfl, trivial⟩ rfl ?_
  rintro i ⟨hi, hf⟩
  repeat (first | refine aops_end ?_ | refine aops_p tok rfl rfl rfl rfl ?_ | refine acode_seq ?_ | refine acode_region ?_)
  refine acode_id rfl (fun e => ?_) (fun e => ?_)
  · have hil : i < l.length := by omega
    obtain ⟨s, hs⟩ : ∃ s, l[i]? = some s := ⟨l[i], List.getElem?_eq_getElem hil⟩
    repeat (first | refine acode_seq ?_ | refine acode_block ?_ | refine acode_skip ?_ | refine then_n ?_)
    refine acode_drawT 6 mixed (by kernel_rfl) (by kernel_rfl) ?_
    repeat (refine seqT_p tok rfl rfl rfl rfl ?_)
    refine seqT_ix tok (f3C s) rfl rfl rfl rfl (by omega) (by omega) (by simp [f3C]) (encs_at (e := f3C) (s := 3) (fun _ => rfl) (i := (i : Int).toNat) (by simpa using hs)) rfl rfl rfl ?_
    repeat (refine seqT_p tok rfl rfl rfl rfl ?_)
    refine seqT_y (yields_eqpt tok s.1 s.2.1 s.2.2 p.1 p.2.1 p.2.2 rfl rfl rfl rfl rfl rfl (by kernel_rfl) (by kernel_rfl) rfl rfl rfl rfl rfl) rfl ?_
    refine SeqT.done ?_
    rw [show ([s.1, s.2.1, s.2.2] == [p.1, p.2.1, p.2.2]) = decide (s = p) from kyL_eq s p]
    by_cases hk : s = p
    · rw [decide_eq_true hk]
      repeat' (first | refine aops_end ?_ | refine aops_p tok rfl rfl rfl rfl ?_ | refine acode_it rfl ?_ | refine acode_seq ?_ | refine acode_region ?_)
      refine acode_ret ?_
      repeat (first | refine ret_then ?_ | refine ret_block ?_)
      exact ⟨_, ⟨rfl, rfl⟩, resOf_tmp (by rw [decide_eq_true (show p ∈ l from hk ▸ List.mem_of_getElem? hs)]; rfl)⟩
    · rw [decide_eq_false hk]
      repeat' (first | refine aops_end ?_ | refine aops_a tok rfl (by omega) (by omega) rfl rfl rfl ?_ | refine aops_p tok rfl rfl rfl rfl ?_ | refine acode_if rfl ?_ | refine acode_region ?_ | refine acode_skip ?_ | refine then_n ?_ | refine block_n ?_)
      exact ⟨i + 1, ⟨by omega, by rw [List.take_add_one, hs]; simp [hf, fun h => hk (Eq.symm h)]; exact fun h => hk h.symm⟩, by omega, ⟨rfl, rfl, rfl, trivial⟩, rfl⟩
  · obtain rfl : i = l.length := by omega
    rw [List.take_length] at hf
    refine acode_exit ?_
    repeat (first | refine exit_then ?_ | refine exit_here ?_ | refine then_n ?_)
    repeat (first | refine aops_end ?_ | refine aops_p tok rfl rfl rfl rfl ?_ | refine acode_seq ?_ | refine acode_region ?_)
    refine acode_ret ?_
    skip
    exact ⟨_, ⟨rfl, rfl⟩, resOf_tmp (by rw [decide_eq_false hf]; rfl)⟩

def ptOk (g : Gr) (k : Nat) (p : Ky) : Prop := (p.1 = -1 ∧ (p.2.1 = 0 ∨ p.2.1 = 1) ∨ (0 ≤ p.1 ∧ p.1 < g.rules.length ∧ 0 ≤ p.2.1 ∧ p.2.1 ≤ (ruleAt g p.1).right.length)) ∧ 0 ≤ p.2.2 ∧ p.2.2 ≤ k
theorem ptOk_mono {g : Gr} {k m : Nat} (h : k ≤ m) {p : Ky} (hp : ptOk g k p) : ptOk g m p := ⟨hp.1, hp.2.1, by have := hp.2.2; omega⟩
def allP (k : Nat) : List Ky := (List.range 61).flatMap fun (r : Nat) => (List.range 9).flatMap fun (a : Nat) => (List.range (k + 1)).map fun (f : Nat) => ((r : Int) - 1, (a : Int), (f : Int))
theorem flat_len {α β : Type} (f : α → List β) (m : Nat) (hf : ∀ x, (f x).length = m) : ∀ l : List α, (l.flatMap f).length = l.length * m
  | [] => by simp
  | x :: l => by rw [List.flatMap_cons, List.length_append, hf, flat_len f m hf l, List.length_cons, Nat.add_mul]; omega
theorem allP_len (k : Nat) : (allP k).length = 549 * (k + 1) := by
  unfold allP
  rw [flat_len _ (9 * (k + 1)) (fun r => by rw [flat_len _ (k + 1) (fun a => by simp)]; simp), List.length_range]
  omega
theorem allP_mem {g : Gr} {n k : Nat} (fo : FormOk g n) {p : Ky} (h : ptOk g k p) : p ∈ allP k := by
  obtain ⟨h1, h2, h3⟩ := h
  obtain ⟨r, a, f⟩ := p
  simp only at h1 h2 h3
  have hr : -1 ≤ r ∧ r < 60 ∧ 0 ≤ a ∧ a ≤ 8 := by
    rcases h1 with ⟨rfl, h | h⟩ | ⟨h4, h5, h6, h7⟩
    · omega
    · omega
    · have := fo.rl
      have := fo.len _ (List.mem_of_getElem? (ruleAt_at h4 h5))
      omega
  unfold allP
  rw [List.mem_flatMap]
  refine ⟨(r + 1).toNat, by simp; omega, ?_⟩
  rw [List.mem_flatMap]
  refine ⟨a.toNat, by simp; omega, ?_⟩
  rw [List.mem_map]
  refine ⟨f.toNat, by simp; omega, ?_⟩
  rw [Prod.mk.injEq, Prod.mk.injEq]
  omega
def missP (k : Nat) (l : List Ky) : Nat := ((allP k).filter fun p => decide (p ∉ l)).length
theorem missP_le (k : Nat) (l : List Ky) : missP k l ≤ 549 * (k + 1) := by rw [← allP_len]; exact List.length_filter_le ..
theorem filter_lt {α : Type} (f h : α → Bool) (himp : ∀ x, h x = true → f x = true) : ∀ (l : List α), (l.filter h).length ≤ (l.filter f).length ∧ ((∃ x ∈ l, f x = true ∧ h x = false) → (l.filter h).length < (l.filter f).length)
  | [] => ⟨Nat.le_refl _, fun ⟨x, hx, _⟩ => by cases hx⟩
  | y :: l => by
    obtain ⟨i1, i2⟩ := filter_lt f h himp l
    rw [List.filter_cons, List.filter_cons]
    have hy := himp y
    constructor
    · cases hh : h y
      · cases hf : f y <;> simp <;> omega
      · rw [hy hh]; simp; exact i1
    · rintro ⟨x, hx, hfx, hhx⟩
      rcases List.mem_cons.1 hx with rfl | hx
      · rw [hfx, hhx]; simp; omega
      · have := i2 ⟨x, hx, hfx, hhx⟩
        cases hh : h y
        · cases hf : f y <;> simp <;> omega
        · rw [hy hh]; simp; exact this
theorem missP_app {g : Gr} {n k : Nat} (fo : FormOk g n) {l : List Ky} {p : Ky} (hp : ptOk g k p) (hn : p ∉ l) : missP k (l ++ [p]) < missP k l := by
  unfold missP
  refine (filter_lt _ _ (fun x hx => ?_) (allP k)).2 ⟨p, allP_mem fo hp, by simpa using hn, by simp⟩
  simp only [decide_eq_true_eq, List.mem_append, not_or] at hx ⊢
  exact hx.1
end Go.Proofs.Ytbnhmioijeagiaa.Ab
/- Chapter 17's reference, fill: the walk. No condition. -/
set_option linter.unusedVariables false
set_option linter.unusedSimpArgs false
namespace Go.Proofs.Ytbnhmioijeagiaa.Ab
attribute [local irreducible] thenA inBlockA ACode AOps put IntKind.wrap

def allA (all : List (List Ky)) : List A := all.map fun x => A.psl x.length (encs f3C x)
theorem allA_at {all : List (List Ky)} {j : Int} {x : List Ky} (h : all[j.toNat]? = some x) : [A.psl x.length (encs f3C x)] <+: (allA all).drop (j.toNat * 1) := by
  rw [Nat.mul_one]
  have hlt : j.toNat < all.length := (List.getElem?_eq_some_iff.1 h).1
  rw [List.drop_eq_getElem_cons (by simpa [allA] using hlt)]
  have h2 : (allA all)[j.toNat]? = some (A.psl x.length (encs f3C x)) := by simp [allA, h]
  rw [List.getElem?_eq_some_iff] at h2
  obtain ⟨h3, h4⟩ := h2
  rw [h4]
  exact ⟨(allA all).drop (j.toNat + 1), rfl⟩
theorem f3_cut {l : List Ky} {i : Nat} {p : Ky} (h : l[i]? = some p) : f3C p <+: (encs f3C l).drop (i * 3) := encs_at (e := f3C) (s := 3) (fun _ => rfl) h
theorem f3_cell {l : List Ky} {i q : Nat} {p : Ky} {x : A} (h : l[i]? = some p) (hx : (f3C p)[q]? = some x) : (encs f3C l)[i * 3 + q]? = some x := by
  obtain ⟨t, ht⟩ := f3_cut h
  have : ((encs f3C l).drop (i * 3))[q]? = some x := by rw [← ht, List.getElem?_append_left (List.getElem?_eq_some_iff.1 hx).1]; exact hx
  rwa [List.getElem?_drop] at this
theorem item_ld {l : List Ky} {i : Nat} {p : Ky} (h : l[i]? = some p) : (bif Nat.ble (i * 3 + 2) (encs f3C l).length then some (A.agg (((encs f3C l).drop (i * 3)).take 2)) else none) = some (.agg [.int .i64 p.1, .int .i64 p.2.1]) := by
  have hlt : i < l.length := (List.getElem?_eq_some_iff.1 h).1
  obtain ⟨t, ht⟩ := f3_cut h
  have h1 : Nat.ble (i * 3 + 2) (encs f3C l).length = true := by rw [encs_len (e := f3C) (s := 3) (fun _ => rfl)]; simp; omega
  rw [h1, ← ht]; rfl
theorem behF_ok {g : Gr} {r a s : Int} (h : behF g r a = (s, true)) : (r = -1 ∧ a = 0 ∧ s = g.start) ∨ (0 ≤ r ∧ r < g.rules.length ∧ 0 ≤ a ∧ a < (ruleAt g r).right.length ∧ s = (ruleAt g r).right.getD a.toNat 0) := by
  unfold behF at h
  split at h
  · rename_i h1
    rw [Prod.mk.injEq] at h
    exact .inl ⟨h1, of_decide_eq_true h.2, h.1.symm⟩
  · split at h
    · rename_i h1 h2
      rw [Prod.mk.injEq] at h
      exact .inr ⟨h2.1, h2.2.1, h2.2.2.1, h2.2.2.2, h.1.symm⟩
    · simp at h
theorem ptOk_next {g : Gr} {k : Nat} {r a f s : Int} (h : ptOk g k (r, a, f)) (hb : behF g r a = (s, true)) : ptOk g k (r, a + 1, f) := by
  obtain ⟨h1, h2⟩ := h
  refine ⟨?_, h2⟩
  rcases behF_ok hb with ⟨rfl, rfl, _⟩ | ⟨b1, b2, b3, b4, _⟩
  · exact .inl ⟨rfl, .inr rfl⟩
  · exact .inr ⟨b1, b2, by simp only; omega, by simp only; omega⟩
theorem beh_name {g : Gr} {n : Nat} (fo : FormOk g n) {r a s : Int} (hb : behF g r a = (s, true)) (hs : 0 ≤ s) : isName g s := by
  rcases behF_ok hb with ⟨rfl, rfl, rfl⟩ | ⟨b1, b2, b3, b4, rfl⟩
  · exact fo.st
  · have hm := List.mem_of_getElem? (ruleAt_at b1 b2)
    have := fo.sym _ hm _ (List.mem_of_getElem? (int_at b3 b4))
    exact this.resolve_left (fun h => by unfold isKind at h; omega)

set_option maxHeartbeats 32000000 in
theorem fill_calls {g : Gr} {n k L0 : Nat} {null : List Bool} {all : List (List Ky)} (fo : FormOk g n) (hn : g.names = n) (hnl : null.length = n) (hal : all.length = k) (hk : k ≤ 2001) (hall : ∀ i x, all[i]? = some x → x.length ≤ 1000000000000 ∧ ∀ p ∈ x, ptOk g i p) {l : List Ky} {ob : Option Nat} {cap : Nat} (hl : ∀ p ∈ l, ptOk g k p) (hL0 : l.length = L0) (hL1 : L0 ≤ 1000000000000) (M : List Ob) :
    ACalls Try.prog 94 [grA g, .psl n (bools null), .psl k (allA all), .own ob l.length cap] (⟨ob, cap * 3, encs f3C l⟩ :: M) (fun r M' => ∃ l' ob' cap', r = .own ob' l'.length cap' ∧ M' = ⟨ob', cap' * 3, encs f3C l'⟩ :: M ∧ (∀ p ∈ l', ptOk g k p) ∧ l'.length ≤ L0 + 549 * (k + 1)) := by
  have hrl := fo.rl
  refine acalls_of_code 200 Try.func94 rfl rfl rfl ?_
  repeat (first | refine acode_seq ?_ | refine acode_region ?_)
  refine aops_boxf rfl rfl rfl rfl rfl rfl rfl ?_
  repeat (first | refine aops_end ?_ | refine aops_p tok rfl rfl rfl rfl ?_ | refine acode_seq ?_ | refine acode_region ?_ | refine acode_block ?_)
  have hm0 := missP_le k l
  refine acode_loopS (ι := Nat × List Ky × Option Nat × Nat) (fun p => [(1, .psl n (bools null)), (2, .psl k (allA all)), (3, .own p.2.2.1 p.2.1.length p.2.2.2), (4, .pp (grC g)), (9, .int .i64 k), (10, .int .i64 p.1)]) (fun p => ⟨p.2.2.1, p.2.2.2 * 3, encs f3C p.2.1⟩ :: M) (fun p => (p.2.1.length - p.1) + missP k p.2.1) (fun p => p.1 ≤ p.2.1.length ∧ (∀ q ∈ p.2.1, ptOk g k q) ∧ p.2.1.length + missP k p.2.1 ≤ L0 + 549 * (k + 1)) (0, l, ob, cap) ⟨Nat.zero_le _, hl, by simp only; omega⟩ ⟨rfl, rfl, rfl, rfl, rfl, rfl, trivial⟩ rfl ?_
  clear hl hL0 hm0
  rintro ⟨i, l, ob, cap⟩ ⟨hi, hl, hml⟩
  simp only at hi hl hml ⊢
  repeat (first | refine aops_end ?_ | refine aops_p tok rfl rfl rfl rfl ?_ | refine acode_seq ?_ | refine acode_region ?_)
  refine acode_id rfl (fun e => ?_) (fun e => ?_)
  · have hil : i < l.length := by omega
    refine acode_somed 3 rfl (by omega) fun c hc => ?_
    subst hc
    obtain ⟨p, hp⟩ : ∃ p, l[i]? = some p := ⟨l[i], List.getElem?_eq_getElem hil⟩
    have hpo := hl p (List.mem_of_getElem? hp)
    obtain ⟨r, a, f⟩ := p
    have hit := item_ld hp
    have hab : 0 ≤ a ∧ a ≤ 8 := by
      rcases hpo.1 with ⟨_, h | h⟩ | ⟨h4, h5, h6, h7⟩
      · simp only at h; omega
      · simp only at h; omega
      · have := fo.len _ (List.mem_of_getElem? (ruleAt_at h4 h5)); simp only at h6 h7 this; omega
    have hc0 := f3_cell (q := 0) hp rfl
    have hc1 := f3_cell (q := 1) hp rfl
    have hc2 := f3_cell (q := 2) hp rfl
    have hbn := fun s (h : behF g r a = (s, true)) (hs : 0 ≤ s) => beh_name fo h hs
    have hnx := fun s (h : behF g r a = (s, true)) => ptOk_next hpo h
    obtain ⟨⟨s, okb⟩, hbe⟩ : ∃ x, behF g r a = x := ⟨_, rfl⟩
    have hbc := fun M => behind_calls (g := g) (r := r) (a := a) M
    rw [hbe] at hbn hnx hbc
    repeat (first | refine acode_seq ?_ | refine acode_region ?_ | refine acode_block ?_ | refine acode_skip ?_ | refine then_n ?_ | refine block_n ?_)
    refine acode_drawT 12 mixed (by kernel_rfl) (by kernel_rfl) ?_
    repeat (refine seqT_p tok rfl rfl rfl rfl ?_)
    refine seqT_ixo tok rfl rfl rfl rfl (by omega) (by omega) rfl rfl rfl ?_
    repeat (refine seqT_p tok rfl rfl rfl rfl ?_)
    refine seqT_ld tok 0 (y := .agg [.int .i64 r, .int .i64 a]) rfl rfl rfl rfl (by rw [headed_eq]; exact hit) rfl rfl rfl ?_
    refine seqT_call _ Try.func95 rfl rfl rfl rfl (hbc _) rfl rfl rfl ?_
    repeat (refine seqT_p tok rfl rfl rfl rfl ?_)
    refine SeqT.done ?_
    refine aops_end ?_
    refine acode_seq ?_
    refine acode_region ?_
    repeat (refine aops_p tok rfl rfl rfl rfl ?_)
    refine aops_end ?_
    refine acode_adopt 13 3 rfl ?_
    refine acode_seq ?_
    refine acode_joinI (ι := List Ky × Option Nat × Nat) (fun q => [(1, .psl n (bools null)), (2, .psl k (allA all)), (3, .own (some c) l.length cap), (4, .pp (grC g)), (9, .int .i64 k), (10, .int .i64 i), (13, .own q.2.1 q.1.length q.2.2)]) (fun q => ⟨q.2.1, q.2.2 * 3, encs f3C q.1⟩ :: ⟨some c, cap * 3, encs f3C l⟩ :: M) (fun q => (∀ p ∈ q.1, ptOk g k p) ∧ q.1.length ≤ 2000000000000) ?_ ?_
    · by_cases hA : okb = true ∧ 0 ≤ s
      · obtain ⟨rfl, hs0⟩ := hA
        obtain ⟨n0, n1⟩ := hbn s rfl hs0
        have hnp := hnx s rfl
        repeat' (first | refine aops_end ?_ | refine aops_pbt tok rfl (by first | omega | decide) rfl rfl rfl ?_ | refine aops_p tok rfl rfl rfl rfl ?_ | refine acode_it rfl ?_ | refine acode_seq ?_ | refine acode_region ?_ | refine acode_block ?_)
        refine acode_loopS (ι := Nat × List Ky × Option Nat × Nat) (fun p => [(1, .psl n (bools null)), (2, .psl k (allA all)), (3, .own (some c) l.length cap), (4, .pp (grC g)), (9, .int .i64 k), (10, .int .i64 i), (11, .int .i64 s), (13, .own p.2.2.1 p.2.1.length p.2.2.2), (14, .int .i64 p.1)]) (fun p => ⟨p.2.2.1, p.2.2.2 * 3, encs f3C p.2.1⟩ :: ⟨some c, cap * 3, encs f3C l⟩ :: M) (fun p => g.rules.length - p.1) (fun p => p.1 ≤ g.rules.length ∧ (∀ q ∈ p.2.1, ptOk g k q) ∧ p.2.1.length ≤ p.1) (0, [], none, 0) ⟨Nat.zero_le _, by simp, by simp⟩ ⟨rfl, rfl, rfl, rfl, rfl, rfl, rfl, rfl, rfl, trivial⟩ rfl ?_
        rintro ⟨j, pm, mo, mc⟩ ⟨hj, hpm, hpml⟩
        simp only at hj hpm hpml ⊢
        repeat (first | refine aops_end ?_ | refine aops_p tok rfl rfl rfl rfl ?_ | refine acode_seq ?_ | refine acode_region ?_)
        refine acode_id rfl (fun e2 => ?_) (fun e2 => ?_)
        · have hjl : j < g.rules.length := by omega
          obtain ⟨rr, hr⟩ : ∃ rr, g.rules[j]? = some rr := ⟨g.rules[j], List.getElem?_eq_getElem hjl⟩
          repeat (first | refine aops_p tok rfl rfl rfl rfl ?_ | refine acode_seq ?_ | refine acode_region ?_ | refine acode_block ?_ | refine acode_skip ?_ | refine then_n ?_)
          refine aops_ix tok (ruC rr) rfl rfl rfl rfl (by omega) (by omega) (by simp [ruC]) (encs_at (e := ruC) (s := 3) (fun _ => rfl) (i := (j : Int).toNat) (by simpa using hr)) rfl rfl rfl ?_
          repeat' (first | refine aops_end ?_ | refine aops_a tok rfl (by omega) (by omega) rfl rfl rfl ?_ | (refine aops_pd tok rfl rfl rfl rfl ?_ ?_ <;> intro e_) | refine aops_p tok rfl rfl rfl rfl ?_ | refine acode_it rfl ?_ | refine acode_if rfl ?_ | refine acode_region ?_ | refine acode_skip ?_ | refine then_n ?_ | refine block_n ?_)
          · refine aops_litn tok rfl rfl rfl rfl rfl rfl rfl ?_
            refine aops_append tok 0 (m := 1) (ds := f3C ((j : Int), (0 : Int), (k : Int))) rfl rfl rfl (.inl rfl) rfl rfl (encs_len (e := f3C) (s := 3) (fun _ => rfl) pm) rfl rfl rfl (by show _ * 24 ≤ _; omega) (by omega) rfl rfl fun ob' cap' => ?_
            repeat (first | refine aops_put rfl ?_ | refine aops_end ?_ | refine aops_endb ?_ | refine aops_a tok rfl (by omega) (by omega) rfl rfl rfl ?_ | refine aops_p tok rfl rfl rfl rfl ?_ | refine acode_region ?_ | refine then_n ?_)
            refine ⟨(j + 1, pm ++ [((j : Int), (0 : Int), (k : Int))], ob', cap'), ⟨by simp only; omega, fun z hz => ?_, by simp only [List.length_append, List.length_singleton]; omega⟩, by simp only; omega, ⟨rfl, rfl, rfl, rfl, rfl, rfl, rfl, by rw [List.length_append]; rfl, rfl, trivial⟩, by simp only [encs_app]; simp [encs]⟩
            rcases List.mem_append.1 hz with h | h
            · exact hpm z h
            · rw [List.mem_singleton.1 h]
              exact ⟨.inr ⟨by simp only; omega, by simp only; omega, by simp only; omega, by simp only; omega⟩, by simp only; omega, by simp only; omega⟩
          · exact ⟨(j + 1, pm, mo, mc), ⟨by simp only; omega, hpm, by simp only; omega⟩, by simp only; omega, ⟨rfl, rfl, rfl, rfl, rfl, rfl, rfl, rfl, rfl, trivial⟩, rfl⟩
        · obtain rfl : j = g.rules.length := by omega
          refine acode_exit ?_
          repeat (first | refine exit_then ?_ | refine exit_here ?_ | refine then_n ?_)
          have hz := getD_at (l := null) (i := s.toNat) (by omega)
          generalize null.getD s.toNat false = z at *
          repeat (first | refine aops_p tok rfl rfl rfl rfl ?_ | refine acode_seq ?_ | refine acode_region ?_)
          refine aops_ix tok [A.bool z] rfl rfl rfl rfl hs0 (by omega) (by simp) (bools_at hz) rfl rfl rfl ?_
          cases z with
          | false =>
            repeat' (first | refine aops_end ?_ | refine aops_p tok rfl rfl rfl rfl ?_ | refine acode_if rfl ?_ | refine acode_skip ?_ | refine then_n ?_ | refine block_n ?_)
            exact ⟨(pm, mo, mc), ⟨hpm, by simp only; omega⟩, ⟨rfl, rfl, rfl, rfl, rfl, rfl, rfl, trivial⟩, rfl⟩
          | true =>
            repeat' (first | refine aops_end ?_ | refine aops_p tok rfl rfl rfl rfl ?_ | refine acode_it rfl ?_)
            refine acode_drawP [⟨some c, cap * 3, encs f3C l⟩] 23 [0, 1, 2, 3, 4, 5, 6, 7, 8, 9, 10, 11, 12, 13, 14, 15, 16, 17, 18, 19, 20, 21, 22] [22] mixed (by kernel_rfl) (by kernel_rfl) rfl ?_
            repeat (refine seqO_p tok rfl rfl rfl rfl rfl ?_)
            refine seqO_ixo tok rfl rfl rfl rfl rfl (by omega) (by omega) rfl rfl rfl ?_
            repeat (refine seqO_p tok rfl rfl rfl rfl rfl ?_)
            refine seqO_ld tok 0 (y := .int .i64 r) rfl rfl rfl rfl rfl (by simp) (by rw [headed_eq]; exact hc0) rfl rfl rfl ?_
            repeat (refine seqO_p tok rfl rfl rfl rfl rfl ?_)
            refine seqO_ixo tok rfl rfl rfl rfl rfl (by omega) (by omega) rfl rfl rfl ?_
            repeat (refine seqO_p tok rfl rfl rfl rfl rfl ?_)
            refine seqO_ld tok 0 (y := .int .i64 a) rfl rfl rfl rfl rfl (by simp) (by rw [headed_eq]; exact hc1) rfl rfl rfl ?_
            repeat (first | refine seqO_a tok rfl rfl (by omega) (by omega) rfl rfl rfl ?_ | refine seqO_p tok rfl rfl rfl rfl rfl ?_)
            refine seqO_ixo tok rfl rfl rfl rfl rfl (by omega) (by omega) rfl rfl rfl ?_
            repeat (refine seqO_p tok rfl rfl rfl rfl rfl ?_)
            refine seqO_ld tok 0 (y := .int .i64 f) rfl rfl rfl rfl rfl (by simp) (by rw [headed_eq]; exact hc2) rfl rfl rfl ?_
            repeat (refine seqO_p tok rfl rfl rfl rfl rfl ?_)
            refine seqO_lit tok rfl rfl rfl rfl rfl rfl rfl rfl rfl ?_
            refine seqO_app tok 0 (m := 1) (ds := f3C (r, a + 1, f)) rfl rfl rfl rfl (.inl rfl) rfl rfl (encs_len (e := f3C) (s := 3) (fun _ => rfl) pm) rfl rfl rfl (by show _ * 24 ≤ _; omega) (by omega) (by intro y o ho; simp at ho ⊢; simp [ho]) rfl rfl rfl fun ob' cap' => ?_
            refine SeqO.done ?_
            repeat (first | refine aops_endb ?_ | refine aops_p tok rfl rfl rfl rfl ?_ | refine then_n ?_)
            refine ⟨(pm ++ [(r, a + 1, f)], ob', cap'), ⟨fun z hz => ?_, by simp only [List.length_append, List.length_singleton]; omega⟩, ⟨rfl, rfl, rfl, rfl, rfl, rfl, by rw [List.length_append]; rfl, trivial⟩, by simp only [encs_app]; simp [encs]⟩
            rcases List.mem_append.1 hz with h | h
            · exact hpm z h
            · rw [List.mem_singleton.1 h]; exact hnp
      · by_cases hB : okb = false ∧ 0 ≤ r ∧ f < k
        · obtain ⟨rfl, hr0, hfk⟩ := hB
          repeat' (first | refine aops_end ?_ | refine aops_o rfl rfl rfl ?_ | refine aops_pbf tok rfl (by first | omega | decide) rfl rfl rfl ?_ | refine aops_p tok rfl rfl rfl rfl ?_ | refine acode_if rfl ?_ | refine acode_seq ?_ | refine acode_region ?_ | refine acode_block ?_)
          have hrlt : r < g.rules.length := by
            rcases hpo.1 with ⟨h, _⟩ | ⟨_, h, _⟩
            · simp only at h; omega
            · exact h
          have hf0 : 0 ≤ f := hpo.2.1
          obtain ⟨x, hx⟩ : ∃ x, all[f.toNat]? = some x := ⟨all[f.toNat]'(by omega), List.getElem?_eq_getElem (by omega)⟩
          obtain ⟨hxl, hxo⟩ := hall _ _ hx
          refine aops_ixo tok rfl rfl rfl rfl (by omega) (by omega) rfl rfl rfl ?_
          repeat (refine aops_p tok rfl rfl rfl rfl ?_)
          refine aops_ld tok 1 (y := .int .i64 r) rfl rfl rfl rfl (by rw [headed_eq]; exact hc0) rfl rfl rfl ?_
          repeat' (first | refine aops_pbt tok rfl (by first | omega | decide) rfl rfl rfl ?_ | refine aops_p tok rfl rfl rfl rfl ?_)
          refine aops_ixo tok rfl rfl rfl rfl (by omega) (by omega) rfl rfl rfl ?_
          repeat (refine aops_p tok rfl rfl rfl rfl ?_)
          refine aops_ld tok 1 (y := .int .i64 f) rfl rfl rfl rfl (by rw [headed_eq]; exact hc2) rfl rfl rfl ?_
          repeat' (first | refine aops_end ?_ | refine aops_pbt tok rfl (by first | omega | decide) rfl rfl rfl ?_ | refine aops_p tok rfl rfl rfl rfl ?_ | refine acode_it rfl ?_ | refine acode_seq ?_)
          refine acode_drawT 11 mixed (by kernel_rfl) (by kernel_rfl) ?_
          repeat (refine seqT_p tok rfl rfl rfl rfl ?_)
          refine seqT_ixo tok rfl rfl rfl rfl (by omega) (by omega) rfl rfl rfl ?_
          repeat (refine seqT_p tok rfl rfl rfl rfl ?_)
          refine seqT_ld tok 1 (y := .int .i64 r) rfl rfl rfl rfl (by rw [headed_eq]; exact hc0) rfl rfl rfl ?_
          skip
          refine seqT_ix tok (ruC (ruleAt g r)) rfl rfl rfl rfl hr0 hrlt (by simp [ruC]) (encs_at (e := ruC) (s := 3) (fun _ => rfl) (ruleAt_at hr0 hrlt)) rfl rfl rfl ?_
          repeat (refine seqT_p tok rfl rfl rfl rfl ?_)
          refine SeqT.done ?_
          repeat (first | refine aops_end ?_ | refine aops_p tok rfl rfl rfl rfl ?_ | refine acode_seq ?_ | refine acode_region ?_)
          refine aops_ixo tok rfl rfl rfl rfl (by omega) (by omega) rfl rfl rfl ?_
          repeat (refine aops_p tok rfl rfl rfl rfl ?_)
          refine aops_ld tok 1 (y := .int .i64 f) rfl rfl rfl rfl (by rw [headed_eq]; exact hc2) rfl rfl rfl ?_
          skip
          refine aops_ix tok [A.psl x.length (encs f3C x)] rfl rfl rfl rfl hf0 (by omega) (by simp) (allA_at hx) rfl rfl rfl ?_
          repeat (first | refine aops_end ?_ | refine aops_p tok rfl rfl rfl rfl ?_ | refine acode_seq ?_ | refine acode_region ?_ | refine acode_block ?_)
          generalize (ruleAt g r).left = left at *
          refine acode_loopS (ι := Nat × List Ky × Option Nat × Nat) (fun p => [(1, .psl n (bools null)), (2, .psl k (allA all)), (3, .own (some c) l.length cap), (4, .pp (grC g)), (9, .int .i64 k), (10, .int .i64 i), (13, .own p.2.2.1 p.2.1.length p.2.2.2), (15, .int .i64 left), (16, .psl x.length (encs f3C x)), (17, .int .i64 p.1)]) (fun p => ⟨p.2.2.1, p.2.2.2 * 3, encs f3C p.2.1⟩ :: ⟨some c, cap * 3, encs f3C l⟩ :: M) (fun p => x.length - p.1) (fun p => p.1 ≤ x.length ∧ (∀ q ∈ p.2.1, ptOk g k q) ∧ p.2.1.length ≤ p.1) (0, [], none, 0) ⟨Nat.zero_le _, by simp, by simp⟩ ⟨rfl, rfl, rfl, rfl, rfl, rfl, rfl, rfl, rfl, rfl, trivial⟩ rfl ?_
          rintro ⟨j, pm, mo, mc⟩ ⟨hj, hpm, hpml⟩
          simp only at hj hpm hpml ⊢
          repeat (first | refine aops_end ?_ | refine aops_p tok rfl rfl rfl rfl ?_ | refine acode_seq ?_ | refine acode_region ?_)
          refine acode_id rfl (fun e2 => ?_) (fun e2 => ?_)
          · have hjl : j < x.length := by omega
            obtain ⟨q, hq⟩ : ∃ q, x[j]? = some q := ⟨x[j], List.getElem?_eq_getElem hjl⟩
            have hqo := hxo q (List.mem_of_getElem? hq)
            obtain ⟨r2, a2, f2⟩ := q
            have hab2 : 0 ≤ a2 ∧ a2 ≤ 8 := by
              rcases hqo.1 with ⟨_, h | h⟩ | ⟨h4, h5, h6, h7⟩
              · simp only at h; omega
              · simp only at h; omega
              · have := fo.len _ (List.mem_of_getElem? (ruleAt_at h4 h5)); simp only at h6 h7 this; omega
            have hab3 : 0 ≤ (r2, a2, f2).2.1 ∧ (r2, a2, f2).2.1 ≤ 8 := hab2
            have hqa := encs_at (e := f3C) (s := 3) (fun _ => rfl) (i := (j : Int).toNat) (by simpa using hq)
            have hnx2 := fun s (h : behF g r2 a2 = (s, true)) => ptOk_next hqo h
            have hbc2 := fun M => behind_calls (g := g) (r := r2) (a := a2) M
            obtain ⟨⟨t, is⟩, hbe2⟩ : ∃ x, behF g r2 a2 = x := ⟨_, rfl⟩
            rw [hbe2] at hnx2 hbc2
            repeat (first | refine acode_seq ?_ | refine acode_block ?_ | refine acode_skip ?_ | refine then_n ?_)
            refine acode_drawT 12 mixed (by kernel_rfl) (by kernel_rfl) ?_
            repeat (refine seqT_p tok rfl rfl rfl rfl ?_)
            refine seqT_ix tok (f3C (r2, a2, f2)) rfl rfl rfl rfl (by omega) (by omega) (by simp [f3C]) hqa rfl rfl rfl ?_
            repeat (refine seqT_p tok rfl rfl rfl rfl ?_)
            refine seqT_call _ Try.func95 rfl rfl rfl rfl (hbc2 _) rfl rfl rfl ?_
            repeat (refine seqT_p tok rfl rfl rfl rfl ?_)
            refine SeqT.done ?_
            cases is with
            | false =>
              repeat' (first | refine aops_end ?_ | refine aops_o rfl rfl rfl ?_ | refine aops_a tok rfl (by omega) (by omega) rfl rfl rfl ?_ | refine aops_p tok rfl rfl rfl rfl ?_ | refine acode_if rfl ?_ | refine acode_seq ?_ | refine acode_region ?_ | refine acode_skip ?_ | refine then_n ?_ | refine block_n ?_)
              exact ⟨(j + 1, pm, mo, mc), ⟨by simp only; omega, hpm, by simp only; omega⟩, by simp only; omega, ⟨rfl, rfl, rfl, rfl, rfl, rfl, rfl, rfl, rfl, rfl, trivial⟩, rfl⟩
            | true =>
              have hnp2 := hnx2 t rfl
              repeat' (first | refine aops_end ?_ | refine aops_a tok rfl (by omega) (by omega) rfl rfl rfl ?_ | (refine aops_pd tok rfl rfl rfl rfl ?_ ?_ <;> intro e_) | refine aops_p tok rfl rfl rfl rfl ?_ | refine acode_it rfl ?_ | refine acode_if rfl ?_ | refine acode_seq ?_ | refine acode_region ?_ | refine acode_skip ?_ | refine then_n ?_ | refine block_n ?_)
              · refine acode_drawP [] 23 [0, 1, 2, 3, 4, 5, 6, 7, 8, 9, 10, 11, 12, 13, 14, 15, 16, 17, 18, 19, 20, 21, 22] [22] mixed (by kernel_rfl) (by kernel_rfl) rfl ?_
                repeat (refine seqO_p tok rfl rfl rfl rfl rfl ?_)
                refine seqO_ix tok (f3C (r2, a2, f2)) rfl rfl rfl rfl rfl (by omega) (by omega) (by simp [f3C]) hqa rfl rfl rfl ?_
                repeat (refine seqO_p tok rfl rfl rfl rfl rfl ?_)
                refine seqO_ix tok (f3C (r2, a2, f2)) rfl rfl rfl rfl rfl (by omega) (by omega) (by simp [f3C]) hqa rfl rfl rfl ?_
                repeat (first | refine seqO_a tok rfl rfl (by omega) (by omega) rfl rfl rfl ?_ | refine seqO_p tok rfl rfl rfl rfl rfl ?_)
                refine seqO_ix tok (f3C (r2, a2, f2)) rfl rfl rfl rfl rfl (by omega) (by omega) (by simp [f3C]) hqa rfl rfl rfl ?_
                repeat (refine seqO_p tok rfl rfl rfl rfl rfl ?_)
                refine seqO_lit tok rfl rfl rfl rfl rfl rfl rfl rfl rfl ?_
                refine seqO_app tok 0 (m := 1) (ds := f3C (r2, a2 + 1, f2)) rfl rfl rfl rfl (.inl rfl) rfl rfl (encs_len (e := f3C) (s := 3) (fun _ => rfl) pm) rfl rfl rfl (by show _ * 24 ≤ _; omega) (by omega) (by intro y o ho; simp at ho) rfl rfl rfl fun ob' cap' => ?_
                refine SeqO.done ?_
                repeat (first | refine aops_end ?_ | refine aops_endb ?_ | refine aops_a tok rfl (by omega) (by omega) rfl rfl rfl ?_ | refine aops_p tok rfl rfl rfl rfl ?_ | refine acode_region ?_ | refine then_n ?_)
                refine ⟨(j + 1, pm ++ [(r2, a2 + 1, f2)], ob', cap'), ⟨by simp only; omega, fun z hz => ?_, by simp only [List.length_append, List.length_singleton]; omega⟩, by simp only; omega, ⟨rfl, rfl, rfl, rfl, rfl, rfl, by rw [List.length_append]; rfl, rfl, rfl, rfl, trivial⟩, by simp only [encs_app]; simp [encs]⟩
                rcases List.mem_append.1 hz with h | h
                · exact hpm z h
                · rw [List.mem_singleton.1 h]; exact ptOk_mono (by omega) hnp2
              · exact ⟨(j + 1, pm, mo, mc), ⟨by simp only; omega, hpm, by simp only; omega⟩, by simp only; omega, ⟨rfl, rfl, rfl, rfl, rfl, rfl, rfl, rfl, rfl, rfl, trivial⟩, rfl⟩
          · obtain rfl : j = x.length := by omega
            refine acode_exit ?_
            repeat (first | refine exit_then ?_ | refine exit_here ?_ | refine then_n ?_ | refine block_n ?_)
            exact ⟨(pm, mo, mc), ⟨hpm, by simp only; omega⟩, ⟨rfl, rfl, rfl, rfl, rfl, rfl, rfl, trivial⟩, rfl⟩
        · cases okb with
          | true =>
            have hsn : ¬ 0 ≤ s := fun h => hA ⟨rfl, h⟩
            repeat' (first | refine aops_end ?_ | refine aops_o rfl rfl rfl ?_ | refine aops_pbf tok rfl (by first | omega | decide) rfl rfl rfl ?_ | refine aops_p tok rfl rfl rfl rfl ?_ | refine acode_if rfl ?_ | refine acode_seq ?_ | refine acode_region ?_ | refine acode_block ?_ | refine acode_skip ?_ | refine then_n ?_ | refine block_n ?_)
            exact ⟨([], none, 0), ⟨by simp, by simp⟩, ⟨rfl, rfl, rfl, rfl, rfl, rfl, rfl, trivial⟩, rfl⟩
          | false =>
            repeat' (first | refine aops_end ?_ | refine aops_o rfl rfl rfl ?_ | refine aops_p tok rfl rfl rfl rfl ?_ | refine acode_if rfl ?_ | refine acode_seq ?_ | refine acode_region ?_ | refine acode_block ?_)
            refine aops_ixo tok rfl rfl rfl rfl (by omega) (by omega) rfl rfl rfl ?_
            repeat (refine aops_p tok rfl rfl rfl rfl ?_)
            refine aops_ld tok 1 (y := .int .i64 r) rfl rfl rfl rfl (by rw [headed_eq]; exact hc0) rfl rfl rfl ?_
            by_cases hr0 : 0 ≤ r
            · have hfk : ¬ f < k := fun h => hB ⟨rfl, hr0, h⟩
              repeat' (first | refine aops_pbt tok rfl (by first | omega | decide) rfl rfl rfl ?_ | refine aops_p tok rfl rfl rfl rfl ?_)
              refine aops_ixo tok rfl rfl rfl rfl (by omega) (by omega) rfl rfl rfl ?_
              repeat (refine aops_p tok rfl rfl rfl rfl ?_)
              refine aops_ld tok 1 (y := .int .i64 f) rfl rfl rfl rfl (by rw [headed_eq]; exact hc2) rfl rfl rfl ?_
              repeat' (first | refine aops_end ?_ | refine aops_pbf tok rfl (by first | omega | decide) rfl rfl rfl ?_ | refine aops_p tok rfl rfl rfl rfl ?_ | refine acode_if rfl ?_ | refine acode_skip ?_ | refine then_n ?_ | refine block_n ?_)
              exact ⟨([], none, 0), ⟨by simp, by simp⟩, ⟨rfl, rfl, rfl, rfl, rfl, rfl, rfl, trivial⟩, rfl⟩
            · repeat' (first | refine aops_end ?_ | refine aops_o rfl rfl rfl ?_ | refine aops_pbf tok rfl (by first | omega | decide) rfl rfl rfl ?_ | refine aops_p tok rfl rfl rfl rfl ?_ | refine acode_if rfl ?_ | refine acode_skip ?_ | refine then_n ?_ | refine block_n ?_)
              exact ⟨([], none, 0), ⟨by simp, by simp⟩, ⟨rfl, rfl, rfl, rfl, rfl, rfl, rfl, trivial⟩, rfl⟩
    rintro ⟨pm, mo, mc⟩ ⟨hpm, hpml⟩
    simp only at hpm hpml ⊢
    repeat (first | refine aops_end ?_ | refine aops_p tok rfl rfl rfl rfl ?_ | refine acode_seq ?_ | refine acode_region ?_ | refine acode_block ?_)
    refine acode_loopS (ι := Nat × List Ky × Option Nat × Nat) (fun p => [(1, .psl n (bools null)), (2, .psl k (allA all)), (3, .own p.2.2.1 p.2.1.length p.2.2.2), (4, .pp (grC g)), (9, .int .i64 k), (10, .int .i64 i), (13, .own mo pm.length mc), (20, .int .i64 p.1)]) (fun p => ⟨mo, mc * 3, encs f3C pm⟩ :: ⟨p.2.2.1, p.2.2.2 * 3, encs f3C p.2.1⟩ :: M) (fun p => pm.length - p.1) (fun p => p.1 ≤ pm.length ∧ (∀ q ∈ p.2.1, ptOk g k q) ∧ p.2.1.length + missP k p.2.1 ≤ l.length + missP k l ∧ l.length ≤ p.2.1.length) (0, l, some c, cap) ⟨Nat.zero_le _, hl, Nat.le_refl _, Nat.le_refl _⟩ ⟨rfl, rfl, rfl, rfl, rfl, rfl, rfl, rfl, trivial⟩ rfl ?_
    rintro ⟨j, l2, ob2, cap2⟩ ⟨hj, hl2, hm2, hle2⟩
    simp only at hj hl2 hm2 hle2 ⊢
    repeat (first | refine aops_end ?_ | refine aops_p tok rfl rfl rfl rfl ?_ | refine acode_seq ?_ | refine acode_region ?_)
    refine acode_id rfl (fun e2 => ?_) (fun e2 => ?_)
    · have hjl : j < pm.length := by omega
      refine acode_somed 3 rfl (by omega) fun c2 hc2 => ?_
      subst hc2
      refine acode_somed 13 rfl (by omega) fun c3 hc3 => ?_
      subst hc3
      obtain ⟨q, hq⟩ : ∃ q, pm[j]? = some q := ⟨pm[j], List.getElem?_eq_getElem hjl⟩
      have hqo := hpm q (List.mem_of_getElem? hq)
      have hll : l2.length ≤ 1000000000000000 := by omega
      have hqld : (bif Nat.ble (j * 3 + 3) (encs f3C pm).length then some (A.agg (((encs f3C pm).drop (j * 3)).take 3)) else none) = some (.agg (f3C q)) := by
        obtain ⟨t, ht⟩ := f3_cut hq
        have h1 : Nat.ble (j * 3 + 3) (encs f3C pm).length = true := by rw [encs_len (e := f3C) (s := 3) (fun _ => rfl)]; simp; omega
        rw [h1, ← ht]; rfl
      repeat (first | refine aops_p tok rfl rfl rfl rfl ?_ | refine acode_seq ?_ | refine acode_region ?_ | refine acode_block ?_ | refine acode_skip ?_ | refine then_n ?_)
      refine aops_ixo tok rfl rfl rfl rfl (by omega) (by omega) rfl rfl rfl ?_
      refine aops_ld tok 0 (y := .agg (f3C q)) rfl rfl rfl rfl (by rw [headed_eq]; exact hqld) rfl rfl rfl ?_
      refine aops_callx Try.func107 rfl rfl rfl rfl (acalls_view (.cons (.own (sz := 3) (.tail _ (.head _)) rfl (encs_len (e := f3C) (s := 3) (fun _ => rfl) l2) (by decide) (VwL.rfl' _)) (.cons (.refl _) .nil)) (rhas_calls (l := l2) (p := q) (by omega) []) rfl) rfl rfl rfl ?_
      by_cases hmem : q ∈ l2
      · rw [decide_eq_true hmem]
        repeat' (first | refine aops_end ?_ | refine aops_a tok rfl (by omega) (by omega) rfl rfl rfl ?_ | refine aops_p tok rfl rfl rfl rfl ?_ | refine acode_if rfl ?_ | refine acode_region ?_ | refine acode_skip ?_ | refine then_n ?_ | refine block_n ?_)
        exact ⟨(j + 1, l2, some c2, cap2), ⟨by simp only; omega, hl2, hm2, hle2⟩, by simp only; omega, ⟨rfl, rfl, rfl, rfl, rfl, rfl, rfl, rfl, trivial⟩, rfl⟩
      · rw [decide_eq_false hmem]
        have hlt := missP_app fo hqo hmem
        repeat' (first | refine aops_end ?_ | refine aops_p tok rfl rfl rfl rfl ?_ | refine acode_it rfl ?_ | refine acode_region ?_)
        refine aops_ixo tok rfl rfl rfl rfl (by omega) (by omega) rfl rfl rfl ?_
        refine aops_ld tok 0 (y := .agg (f3C q)) rfl rfl rfl rfl (by rw [headed_eq]; exact hqld) rfl rfl rfl ?_
        refine aops_litn tok rfl rfl rfl rfl rfl rfl rfl ?_
        refine aops_append tok 1 (m := 1) (ds := f3C q) rfl rfl rfl (.inl rfl) rfl rfl (encs_len (e := f3C) (s := 3) (fun _ => rfl) l2) rfl rfl rfl (by show _ * 24 ≤ _; omega) (by omega) rfl rfl fun ob' cap' => ?_
        repeat (first | refine aops_put rfl ?_ | refine aops_end ?_ | refine aops_endb ?_ | refine aops_a tok rfl (by omega) (by omega) rfl rfl rfl ?_ | refine aops_p tok rfl rfl rfl rfl ?_ | refine acode_region ?_ | refine then_n ?_)
        exact ⟨(j + 1, l2 ++ [q], ob', cap'), ⟨by simp only; omega, fun z hz => by rcases List.mem_append.1 hz with h | h; exact hl2 z h; rw [List.mem_singleton.1 h]; exact hqo, by simp only [List.length_append, List.length_singleton]; omega, by simp only [List.length_append, List.length_singleton]; omega⟩, by simp only; omega, ⟨rfl, rfl, by rw [List.length_append]; rfl, rfl, rfl, rfl, rfl, rfl, trivial⟩, by simp only [encs_app]; simp [encs]⟩
    · obtain rfl : j = pm.length := by omega
      refine acode_exit ?_
      repeat (first | refine exit_then ?_ | refine exit_here ?_ | refine then_n ?_ | refine block_n ?_)
      refine acode_drop0 ?_
      repeat (first | refine aops_end ?_ | refine aops_a tok rfl (by omega) (by omega) rfl rfl rfl ?_ | refine aops_p tok rfl rfl rfl rfl ?_ | refine acode_region ?_)
      exact ⟨(i + 1, l2, ob2, cap2), ⟨by simp only; omega, hl2, by simp only; omega⟩, by simp only; omega, ⟨rfl, rfl, rfl, rfl, rfl, rfl, trivial⟩, rfl⟩
  · obtain rfl : i = l.length := by omega
    refine acode_exit ?_
    repeat (first | refine exit_then ?_ | refine exit_here ?_ | refine then_n ?_)
    repeat (first | refine aops_end ?_ | refine aops_p tok rfl rfl rfl rfl ?_ | refine acode_seq ?_ | refine acode_region ?_)
    refine acode_ret ?_
    skip
    exact ⟨_, ⟨l, ob, cap, rfl, rfl, hl, by omega⟩, resOf_tmp rfl⟩
end Go.Proofs.Ytbnhmioijeagiaa.Ab
/- Chapter 17's reference, walk and Prefix: the walk. No condition. -/
set_option linter.unusedVariables false
set_option linter.unusedSimpArgs false
namespace Go.Proofs.Ytbnhmioijeagiaa.Ab
attribute [local irreducible] thenA inBlockA ACode AOps put IntKind.wrap

theorem looseL_f3 : ∀ l : List Ky, looseL (encs f3C l) = true
  | [] => rfl
  | x :: l => by
    have := looseL_f3 l
    simp only [encs, List.flatMap_cons, f3C, List.cons_append, List.nil_append, looseL, looseA, Bool.true_and] at this ⊢
    exact this
theorem allA_len (all : List (List Ky)) : (allA all).length = all.length := by simp [allA]
def FillR (g : Gr) (k L0 : Nat) (V : List Ob) : A → List Ob → Prop := fun r M' => ∃ l' ob' cap', r = .own ob' l'.length cap' ∧ M' = ⟨ob', cap' * 3, encs f3C l'⟩ :: V ∧ (∀ p ∈ l', ptOk g k p) ∧ l'.length ≤ L0 + 549 * (k + 1)
theorem fillV_calls {g : Gr} {n k L0 : Nat} {null : List Bool} {all : List (List Ky)} (fo : FormOk g n) (hn : g.names = n) (hnl : null.length = n) (hal : all.length = k) (hk : k ≤ 2001) (hall : ∀ i x, all[i]? = some x → x.length ≤ 1000000000000 ∧ ∀ p ∈ x, ptOk g i p) {l : List Ky} {ob : Option Nat} {cap : Nat} (hl : ∀ p ∈ l, ptOk g k p) (hL0 : l.length = L0) (hL1 : L0 ≤ 1000000000000) (V : List Ob) {x : A} (hx : Vw V x (.psl k (allA all))) :
    ACalls Try.prog 94 [grA g, .psl n (bools null), x, .own ob l.length cap] (⟨ob, cap * 3, encs f3C l⟩ :: V) (FillR g k L0 V) := by
  refine (acalls_part (W := [⟨ob, cap * 3, encs f3C l⟩]) (V := V) (.cons (.refl _) (.cons (.refl _) (.cons hx (.cons (.refl _) .nil)))) (fill_calls fo hn hnl hal hk hall hl hL0 hL1 []) ?_).mono ?_
  · rintro r M' ⟨l', ob', cap', rfl, rfl, h1, h2⟩
    refine ⟨rfl, fun o ho => ?_⟩
    rw [List.mem_singleton.1 ho]
    exact looseL_f3 l'
  · rintro r M' ⟨M1, ⟨l', ob', cap', rfl, rfl, h1, h2⟩, rfl⟩
    exact ⟨l', ob', cap', rfl, rfl, h1, h2⟩

set_option maxHeartbeats 32000000 in
theorem walk_calls {g : Gr} {n : Nat} {ks : List Int} (hg : GrOk g) (hform : (formF g).2 = 0) (fo : FormOk g n) (hn : g.names = n) (hks : ks.length ≤ 2000) (M : List Ob) :
    ACalls Try.prog 72 [grA g, .psl ks.length (ints ks)] M (fun r M' => ∃ all ob cap, r = .own ob all.length cap ∧ M' = ⟨ob, cap * 1, allA all⟩ :: M ∧ all.length ≤ 3000) := by
  have hrl := fo.rl
  have hn1 := fo.n1
  refine acalls_of_code 99 Try.func72 rfl rfl rfl ?_
  repeat (first | refine acode_seq ?_ | refine acode_region ?_)
  refine aops_boxf rfl rfl rfl rfl rfl rfl rfl ?_
  repeat (first | refine aops_end ?_ | refine aops_p tok rfl rfl rfl rfl ?_ | refine acode_seq ?_ | refine acode_region ?_)
  refine aops_callx Try.func70 rfl rfl rfl rfl (rnullable_calls hg hform hn (by omega) fo.left fo.sym _) rfl rfl rfl ?_
  have hnl := nullF_len g n
  generalize nullF g n = null at *
  repeat (refine aops_p tok rfl rfl rfl rfl ?_)
  refine aops_end ?_
  refine acode_seq ?_
  refine acode_region ?_
  repeat (refine aops_p tok rfl rfl rfl rfl ?_)
  refine aops_end ?_
  refine acode_adopt 6 1 rfl ?_
  repeat (first | refine aops_p tok rfl rfl rfl rfl ?_ | refine acode_seq ?_ | refine acode_region ?_)
  refine aops_lito tok rfl rfl rfl rfl rfl rfl rfl fun lb => ?_
  refine aops_call Try.func94 rfl rfl rfl rfl (fillV_calls (l := [((-1 : Int), (0 : Int), (0 : Int))]) (ob := some lb) (cap := 1) (k := 0) (L0 := 1) (all := []) fo hn hnl rfl (by omega) (fun i x h => by simp at h) (fun p hp => by rw [List.mem_singleton.1 hp]; exact ⟨.inl ⟨rfl, .inl rfl⟩, by simp, by simp⟩) rfl (by omega) _ .nils) rfl rfl ?_
  rintro y M1 ⟨l1, ob1, cap1, rfl, rfl, hl1, hl2⟩
  refine aops_put rfl ?_
  refine aops_pub0 21 3 rfl rfl (encs_len (e := f3C) (s := 3) (fun _ => rfl) l1) rfl ?_
  refine aops_litn tok rfl rfl rfl rfl rfl rfl rfl ?_
  refine aops_append tok 0 (m := 1) (ds := allA [l1]) rfl rfl rfl (.inl rfl) rfl rfl rfl rfl rfl rfl (by decide) (by decide) rfl rfl fun ob0 cap0 => ?_
  repeat (first | refine aops_put rfl ?_ | refine aops_end ?_ | refine aops_p tok rfl rfl rfl rfl ?_ | refine acode_seq ?_ | refine acode_region ?_ | refine acode_block ?_)
  refine acode_loopS (ι := Nat × List (List Ky) × Option Nat × Nat) (fun p => [(1, .psl ks.length (ints ks)), (2, .pp (grC g)), (5, .psl n (bools null)), (6, .own p.2.2.1 p.2.1.length p.2.2.2), (7, .int .i64 p.1)]) (fun p => ⟨p.2.2.1, p.2.2.2 * 1, allA p.2.1⟩ :: M) (fun p => ks.length - p.1) (fun p => p.1 ≤ ks.length ∧ p.2.1.length = p.1 + 1 ∧ ∀ i x, p.2.1[i]? = some x → x.length ≤ (i + 1) * 1100000 ∧ ∀ q ∈ x, ptOk g i q) (0, [l1], ob0, cap0) ⟨Nat.zero_le _, rfl, fun i x h => ?_⟩ ⟨rfl, rfl, rfl, rfl, rfl, trivial⟩ rfl ?_
  · obtain ⟨h1, h2⟩ := List.getElem?_eq_some_iff.1 h
    have hi : i = 0 := by simp at h1; exact h1
    subst hi
    simp at h2
    subst h2
    exact ⟨by omega, hl1⟩
  rintro ⟨i, all, ob, cap⟩ ⟨hi, hal, hall⟩
  simp only at hi hal hall ⊢
  repeat (first | refine aops_end ?_ | refine aops_p tok rfl rfl rfl rfl ?_ | refine acode_seq ?_ | refine acode_region ?_)
  refine acode_id rfl (fun e => ?_) (fun e => ?_)
  · have hil : i < ks.length := by omega
    refine acode_somed 6 rfl (by omega) fun c hc => ?_
    subst hc
    obtain ⟨x, hx⟩ : ∃ x, all[i]? = some x := ⟨all[i]'(by omega), List.getElem?_eq_getElem (by omega)⟩
    obtain ⟨hxl, hxo⟩ := hall i x hx
    have hxl2 : x.length ≤ 2300000000 := by
      have : (i + 1) * 1100000 ≤ 2001 * 1100000 := Nat.mul_le_mul_right _ (by omega)
      omega
    have hxa : (allA all)[i * 1]? = some (A.psl x.length (encs f3C x)) := by rw [Nat.mul_one]; simp [allA, hx]
    obtain ⟨kv, hkv⟩ : ∃ kv, ks[i]? = some kv := ⟨ks[i], List.getElem?_eq_getElem hil⟩
    repeat (first | refine acode_seq ?_ | refine acode_region ?_ | refine acode_block ?_ | refine acode_skip ?_ | refine then_n ?_ | refine block_n ?_)
    repeat (refine aops_p tok rfl rfl rfl rfl ?_)
    refine aops_end ?_
    refine acode_adopt 8 3 rfl ?_
    repeat (first | refine aops_p tok rfl rfl rfl rfl ?_ | refine acode_seq ?_ | refine acode_region ?_)
    refine aops_ixo tok rfl rfl rfl rfl (by omega) (by omega) rfl rfl rfl ?_
    refine aops_ld tok 1 (y := .psl x.length (encs f3C x)) rfl rfl rfl rfl (by rw [headed_eq]; exact hxa) rfl rfl rfl ?_
    repeat (first | refine aops_end ?_ | refine aops_p tok rfl rfl rfl rfl ?_ | refine acode_seq ?_ | refine acode_region ?_ | refine acode_block ?_)
    refine acode_loopS (ι := Nat × List Ky × Option Nat × Nat) (fun p => [(1, .psl ks.length (ints ks)), (2, .pp (grC g)), (5, .psl n (bools null)), (6, .own (some c) all.length cap), (7, .int .i64 i), (8, .own p.2.2.1 p.2.1.length p.2.2.2), (9, .psl x.length (encs f3C x)), (10, .int .i64 p.1)]) (fun p => ⟨p.2.2.1, p.2.2.2 * 3, encs f3C p.2.1⟩ :: ⟨some c, cap * 1, allA all⟩ :: M) (fun p => x.length - p.1) (fun p => p.1 ≤ x.length ∧ (∀ q ∈ p.2.1, ptOk g (i + 1) q) ∧ p.2.1.length ≤ p.1) (0, [], none, 0) ⟨Nat.zero_le _, by simp, by simp⟩ ⟨rfl, rfl, rfl, rfl, rfl, rfl, rfl, rfl, trivial⟩ rfl ?_
    rintro ⟨j, pm, mo, mc⟩ ⟨hj, hpm, hpml⟩
    simp only at hj hpm hpml ⊢
    repeat (first | refine aops_end ?_ | refine aops_p tok rfl rfl rfl rfl ?_ | refine acode_seq ?_ | refine acode_region ?_)
    refine acode_id rfl (fun e2 => ?_) (fun e2 => ?_)
    · have hjl : j < x.length := by omega
      obtain ⟨q, hq⟩ : ∃ q, x[j]? = some q := ⟨x[j], List.getElem?_eq_getElem hjl⟩
      have hqo := hxo q (List.mem_of_getElem? hq)
      obtain ⟨r2, a2, f2⟩ := q
      have hab2 : 0 ≤ a2 ∧ a2 ≤ 8 := by
        rcases hqo.1 with ⟨_, h | h⟩ | ⟨h4, h5, h6, h7⟩
        · simp only at h; omega
        · simp only at h; omega
        · have := fo.len _ (List.mem_of_getElem? (ruleAt_at h4 h5)); simp only at h6 h7 this; omega
      have hab3 : 0 ≤ (r2, a2, f2).2.1 ∧ (r2, a2, f2).2.1 ≤ 8 := hab2
      have hqa := encs_at (e := f3C) (s := 3) (fun _ => rfl) (i := (j : Int).toNat) (by simpa using hq)
      have hnx2 := fun s (h : behF g r2 a2 = (s, true)) => ptOk_next hqo h
      have hsr : ∀ s, behF g r2 a2 = (s, true) → -100 ≤ s ∧ s ≤ 100 := fun s h => by
        rcases behF_ok h with ⟨_, _, rfl⟩ | ⟨b1, b2, b3, b4, rfl⟩
        · have := fo.st; unfold isName at this; omega
        · have := fo.sym _ (List.mem_of_getElem? (ruleAt_at b1 b2)) _ (List.mem_of_getElem? (int_at b3 b4))
          have := fo.k1
          unfold isSym isKind isName at *; omega
      have hbc2 := fun M => behind_calls (g := g) (r := r2) (a := a2) M
      obtain ⟨⟨t, is⟩, hbe2⟩ : ∃ x, behF g r2 a2 = x := ⟨_, rfl⟩
      rw [hbe2] at hnx2 hbc2 hsr
      repeat (first | refine acode_seq ?_ | refine acode_block ?_ | refine acode_skip ?_ | refine then_n ?_)
      refine acode_drawT 12 mixed (by kernel_rfl) (by kernel_rfl) ?_
      repeat (refine seqT_p tok rfl rfl rfl rfl ?_)
      refine seqT_ix tok (f3C (r2, a2, f2)) rfl rfl rfl rfl (by omega) (by omega) (by simp [f3C]) hqa rfl rfl rfl ?_
      repeat (refine seqT_p tok rfl rfl rfl rfl ?_)
      refine seqT_call _ Try.func95 rfl rfl rfl rfl (hbc2 _) rfl rfl rfl ?_
      repeat (refine seqT_p tok rfl rfl rfl rfl ?_)
      refine SeqT.done ?_
      cases is with
      | false =>
        repeat' (first | refine aops_end ?_ | refine aops_o rfl rfl rfl ?_ | refine aops_a tok rfl (by omega) (by omega) rfl rfl rfl ?_ | refine aops_p tok rfl rfl rfl rfl ?_ | refine acode_if rfl ?_ | refine acode_seq ?_ | refine acode_region ?_ | refine acode_skip ?_ | refine then_n ?_ | refine block_n ?_)
        exact ⟨(j + 1, pm, mo, mc), ⟨by simp only; omega, hpm, by simp only; omega⟩, by simp only; omega, ⟨rfl, rfl, rfl, rfl, rfl, rfl, rfl, rfl, trivial⟩, rfl⟩
      | true =>
        have hnp2 := hnx2 t rfl
        have hsr := hsr t rfl
        by_cases ht0 : t < 0
        · repeat' (first | refine aops_end ?_ | refine aops_a tok rfl (by omega) (by omega) rfl rfl rfl ?_ | refine aops_pbt tok rfl (by first | omega | decide) rfl rfl rfl ?_ | refine aops_p tok rfl rfl rfl rfl ?_ | refine acode_seq ?_ | refine acode_region ?_)
          refine aops_ix tok [A.int .i64 kv] rfl rfl rfl rfl (by omega) (by omega) (by simp) (ints_at (j := i) (by simpa using hkv)) rfl rfl rfl ?_
          repeat' (first | refine aops_end ?_ | refine aops_a tok rfl (by omega) (by omega) rfl rfl rfl ?_ | (refine aops_pd tok rfl rfl rfl rfl ?_ ?_ <;> intro e_) | refine aops_p tok rfl rfl rfl rfl ?_ | refine acode_it rfl ?_ | refine acode_if rfl ?_ | refine acode_region ?_ | refine acode_skip ?_ | refine then_n ?_ | refine block_n ?_)
          · refine acode_drawP [] 23 [0, 1, 2, 3, 4, 5, 6, 7, 8, 9, 10, 11, 12, 13, 14, 15, 16, 17, 18, 19, 20, 21, 22] [22] mixed (by kernel_rfl) (by kernel_rfl) rfl ?_
            repeat (refine seqO_p tok rfl rfl rfl rfl rfl ?_)
            refine seqO_ix tok (f3C (r2, a2, f2)) rfl rfl rfl rfl rfl (by omega) (by omega) (by simp [f3C]) hqa rfl rfl rfl ?_
            repeat (refine seqO_p tok rfl rfl rfl rfl rfl ?_)
            refine seqO_ix tok (f3C (r2, a2, f2)) rfl rfl rfl rfl rfl (by omega) (by omega) (by simp [f3C]) hqa rfl rfl rfl ?_
            repeat (first | refine seqO_a tok rfl rfl (by omega) (by omega) rfl rfl rfl ?_ | refine seqO_p tok rfl rfl rfl rfl rfl ?_)
            refine seqO_ix tok (f3C (r2, a2, f2)) rfl rfl rfl rfl rfl (by omega) (by omega) (by simp [f3C]) hqa rfl rfl rfl ?_
            repeat (refine seqO_p tok rfl rfl rfl rfl rfl ?_)
            refine seqO_lit tok rfl rfl rfl rfl rfl rfl rfl rfl rfl ?_
            refine seqO_app tok 0 (m := 1) (ds := f3C (r2, a2 + 1, f2)) rfl rfl rfl rfl (.inl rfl) rfl rfl (encs_len (e := f3C) (s := 3) (fun _ => rfl) pm) rfl rfl rfl (by show _ * 24 ≤ _; omega) (by omega) (by intro y o ho; simp at ho) rfl rfl rfl fun ob' cap' => ?_
            refine SeqO.done ?_
            repeat (first | refine aops_end ?_ | refine aops_endb ?_ | refine aops_a tok rfl (by omega) (by omega) rfl rfl rfl ?_ | refine aops_p tok rfl rfl rfl rfl ?_ | refine acode_region ?_ | refine then_n ?_)
            refine ⟨(j + 1, pm ++ [(r2, a2 + 1, f2)], ob', cap'), ⟨by simp only; omega, fun z hz => ?_, by simp only [List.length_append, List.length_singleton]; omega⟩, by simp only; omega, ⟨rfl, rfl, rfl, rfl, rfl, by rw [List.length_append]; rfl, rfl, rfl, trivial⟩, by simp only [encs_app]; simp [encs]⟩
            rcases List.mem_append.1 hz with h | h
            · exact hpm z h
            · rw [List.mem_singleton.1 h]; exact ptOk_mono (by omega) hnp2
          · exact ⟨(j + 1, pm, mo, mc), ⟨by simp only; omega, hpm, by simp only; omega⟩, by simp only; omega, ⟨rfl, rfl, rfl, rfl, rfl, rfl, rfl, rfl, trivial⟩, rfl⟩
        · repeat' (first | refine aops_end ?_ | refine aops_o rfl rfl rfl ?_ | refine aops_a tok rfl (by omega) (by omega) rfl rfl rfl ?_ | refine aops_pbf tok rfl (by first | omega | decide) rfl rfl rfl ?_ | refine aops_p tok rfl rfl rfl rfl ?_ | refine acode_if rfl ?_ | refine acode_seq ?_ | refine acode_region ?_ | refine acode_skip ?_ | refine then_n ?_ | refine block_n ?_)
          exact ⟨(j + 1, pm, mo, mc), ⟨by simp only; omega, hpm, by simp only; omega⟩, by simp only; omega, ⟨rfl, rfl, rfl, rfl, rfl, rfl, rfl, rfl, trivial⟩, rfl⟩
    · obtain rfl : j = x.length := by omega
      refine acode_exit ?_
      repeat (first | refine exit_then ?_ | refine exit_here ?_ | refine then_n ?_)
      by_cases hp0 : pm.length = 0
      · repeat' (first | refine aops_end ?_ | refine aops_pbt tok rfl (by first | omega | decide) rfl rfl rfl ?_ | refine aops_p tok rfl rfl rfl rfl ?_ | refine acode_it rfl ?_ | refine acode_seq ?_ | refine acode_region ?_)
        refine acode_exit ?_
        repeat (first | refine exit_then ?_ | refine exit_here ?_ | refine exit_out rfl ?_ | refine then_n ?_)
        refine acode_drop0 ?_
        repeat (first | refine aops_end ?_ | refine aops_p tok rfl rfl rfl rfl ?_ | refine acode_seq ?_ | refine acode_region ?_)
        refine acode_ret ?_
        skip
        exact ⟨_, ⟨all, some c, cap, rfl, rfl, by omega⟩, resOf_tmp rfl⟩
      · repeat' (first | refine aops_end ?_ | refine aops_pbf tok rfl (by first | omega | decide) rfl rfl rfl ?_ | refine aops_p tok rfl rfl rfl rfl ?_ | refine acode_if rfl ?_ | refine acode_seq ?_ | refine acode_region ?_ | refine acode_skip ?_ | refine then_n ?_)
        refine aops_call Try.func94 rfl rfl rfl rfl (fillV_calls (l := pm) (ob := mo) (cap := mc) (k := i + 1) (L0 := pm.length) (all := all) fo hn hnl hal (by omega) (fun i2 x2 h => ?_) hpm rfl (by omega) _ ?_) rfl rfl ?_
        · obtain ⟨h1, h2⟩ := hall i2 x2 h
          have h3 : i2 < all.length := (List.getElem?_eq_some_iff.1 h).1
          have : (i2 + 1) * 1100000 ≤ 2001 * 1100000 := Nat.mul_le_mul_right _ (by omega)
          exact ⟨by omega, h2⟩
        · rw [← hal]
          exact .own (sz := 1) (room := cap * 1) (.head _) rfl (by rw [allA_len, Nat.mul_one]) (by decide) (VwL.rfl' _)
        rintro y M1 ⟨l1, ob1, cap1, rfl, rfl, hl1, hl2⟩
        refine aops_put rfl ?_
        refine aops_pub0 95 3 rfl rfl (encs_len (e := f3C) (s := 3) (fun _ => rfl) l1) rfl ?_
        refine aops_litn tok rfl rfl rfl rfl rfl rfl rfl ?_
        refine aops_append tok 0 (m := 1) (ds := allA [l1]) rfl rfl rfl (.inl rfl) rfl rfl (by rw [allA_len, Nat.mul_one]) rfl rfl rfl (by show _ * 24 ≤ _; omega) (by omega) rfl rfl fun ob0 cap0 => ?_
        repeat (first | refine aops_put rfl ?_ | refine aops_end ?_ | refine aops_endb ?_ | refine aops_a tok rfl (by omega) (by omega) rfl rfl rfl ?_ | refine aops_p tok rfl rfl rfl rfl ?_ | refine acode_region ?_ | refine then_n ?_)
        refine ⟨(i + 1, all ++ [l1], ob0, cap0), ⟨by simp only; omega, by simp only [List.length_append, List.length_singleton]; omega, fun i2 x2 h => ?_⟩, by simp only; omega, ⟨rfl, rfl, rfl, by rw [List.length_append]; rfl, rfl, trivial⟩, by simp [allA]⟩
        by_cases h2 : i2 < all.length
        · rw [List.getElem?_append_left h2] at h
          exact hall i2 x2 h
        · have h3 : i2 < (all ++ [l1]).length := (List.getElem?_eq_some_iff.1 h).1
          rw [List.length_append, List.length_singleton] at h3
          have h4 : i2 = all.length := by omega
          subst h4
          rw [List.getElem?_append_right (Nat.le_refl _), Nat.sub_self] at h
          have h5 : l1 = x2 := by simpa using h
          subst h5
          refine ⟨?_, by rw [hal]; exact hl1⟩
          have h6 : 549 * (i + 1 + 1) ≤ 549 * 2002 := Nat.mul_le_mul_left _ (by omega)
          have h7 : (all.length + 1) * 1100000 = (i + 1) * 1100000 + 1100000 := by rw [hal, Nat.succ_mul]
          omega
  · obtain rfl : i = ks.length := by omega
    refine acode_exit ?_
    repeat (first | refine exit_then ?_ | refine exit_here ?_ | refine then_n ?_)
    repeat (first | refine aops_end ?_ | refine aops_p tok rfl rfl rfl rfl ?_ | refine acode_seq ?_ | refine acode_region ?_)
    refine acode_ret ?_
    skip
    exact ⟨_, ⟨all, ob, cap, rfl, rfl, by omega⟩, resOf_tmp rfl⟩

theorem prefix_calls {g : Gr} {n : Nat} {ks : List Int} (hg : GrOk g) (h : chkF g = 0) (fo : FormOk g n) (hform : (formF g).2 = 0) (hn : g.names = n) (hks : ks.length ≤ 2000) (M : List Ob) :
    ACalls Try.prog 35 [grA g, .psl ks.length (ints ks)] M (fun r M' => (∃ a, r = .int .i64 a) ∧ M' = M) := by
  refine acalls_of_code 19 Try.func35 rfl rfl rfl ?_
  repeat (first | refine acode_seq ?_ | refine acode_region ?_)
  refine aops_boxf rfl rfl rfl rfl rfl rfl rfl ?_
  repeat (first | refine aops_end ?_ | refine aops_p tok rfl rfl rfl rfl ?_ | refine acode_seq ?_ | refine acode_region ?_)
  refine aops_call Try.func10 rfl rfl rfl rfl (check_calls hg _) rfl rfl ?_
  rintro y M1 ⟨⟨a0, rfl⟩, hM1⟩
  rw [h, hM1]
  repeat' (first | refine aops_put rfl ?_ | refine aops_end ?_ | (refine aops_pn tok rfl rfl rfl rfl ?_ ?_ <;> intro e_) | refine aops_p tok rfl rfl rfl rfl ?_ | refine acode_it rfl ?_ | refine acode_if rfl ?_ | refine acode_seq ?_ | refine acode_region ?_ | refine acode_skip ?_ | refine then_n ?_)
  any_goals (exfalso; omega)
  refine aops_call Try.func72 rfl rfl rfl rfl (walk_calls hg hform fo hn hks _) rfl rfl ?_
  rintro y M2 ⟨all, ob, cap, rfl, hM2, hal⟩
  rw [hM2]
  repeat (first | refine aops_put rfl ?_ | refine aops_end ?_ | refine aops_a tok rfl (by omega) (by omega) rfl rfl rfl ?_ | refine aops_p tok rfl rfl rfl rfl ?_)
  refine acode_drop0 ?_
  refine acode_ret ?_
  skip
  exact ⟨_, ⟨⟨_, rfl⟩, rfl⟩, resOf_tmp rfl⟩
end Go.Proofs.Ytbnhmioijeagiaa.Ab
/- Chapter 19's reference, Build in plain terms. No condition. -/
set_option linter.unusedVariables false
set_option linter.unusedSimpArgs false
namespace Go.Proofs.Ytbnhmioijeagiaa.Ab

abbrev Wy := Int × List Ky
def wyCC (w : Wy) : List A := wyC w.1 w.2
/-- The ways of one key, of the rules one after the other, while there are not too many. -/
def mineS (g : Gr) (ks : List Int) (n : Nat) (F : List (List Bool)) (lim : Nat) (k : Ky) (x : List Wy × Nat) (j : Nat) : List Wy × Nat :=
  if x.2 ≤ lim ∧ (ruleAt g j).left = k.1 then
    (x.1 ++ (waysF ks n F (ruleAt g j).right k.2.1.toNat k.2.2.toNat lim).map fun w => ((j : Int), w), x.2 + (waysF ks n F (ruleAt g j).right k.2.1.toNat k.2.2.toNat lim).length)
  else x
def mineF (g : Gr) (ks : List Int) (n : Nat) (F : List (List Bool)) (lim : Nat) (k : Ky) (c : Nat) : List Wy × Nat := (List.range g.rules.length).foldl (mineS g ks n F lim k) ([], c)
def newS (x : List Ky × Nat) (y : Ky) : List Ky × Nat := if 0 ≤ y.1 ∧ findF y x.1 0 < 0 then (x.1 ++ [y], x.2 + 1) else x
def newW (lim : Nat) (x : List Ky × Nat) (w : Wy) : List Ky × Nat := if x.2 ≤ lim then w.2.foldl newS x else x
def bldQ (g : Gr) (ks : List Int) (n : Nat) (F : List (List Bool)) (lim : Nat) : Nat → Nat → List Ky → List (List Wy) → Nat → Option (List Ky × List (List Wy))
  | 0, _, _, _, _ => none
  | q + 1, i, keys, all, c => match keys[i]? with
    | none => some (keys, all)
    | some k => if ((mineF g ks n F lim k c).1.foldl (newW lim) (keys, (mineF g ks n F lim k c).2)).2 > lim then none
      else bldQ g ks n F lim q (i + 1) ((mineF g ks n F lim k c).1.foldl (newW lim) (keys, (mineF g ks n F lim k c).2)).1 (all ++ [(mineF g ks n F lim k c).1]) ((mineF g ks n F lim k c).1.foldl (newW lim) (keys, (mineF g ks n F lim k c).2)).2
def kidN (order : List Ky) (x : Ky) : Int := if x.1 < 0 then -1 - x.2.1 else findF x order 0
def altN (order : List Ky) (w : Wy) : Al := ⟨w.1, w.2.map (kidN order)⟩
def nodeN (keys : List Ky) (all : List (List Wy)) (order : List Ky) (k : Ky) : Nd := ⟨k.1, k.2.1, k.2.2, sortK lowF ((all.getD (findF k keys 0).toNat []).map (altN order))⟩
def bldF (keys : List Ky) (all : List (List Wy)) : Fo := ⟨(sortK aheadF keys).map (nodeN keys all (sortK aheadF keys)), findF (keys.getD 0 (0, 0, 0)) (sortK aheadF keys) 0⟩
/-- What Build answers of a grammar that is right: a forest, or none (its error). -/
def buildF (g : Gr) (ks : List Int) (lim : Nat) : Option Fo × Int :=
  if hasF g.names.toNat ks.length (chF g ks g.names.toNat ks.length) g.start 0 ks.length = false then (none, 10)
  else match bldQ g ks ks.length (chF g ks g.names.toNat ks.length) lim (lim + 2) 0 [(g.start, 0, (ks.length : Int))] [] 1 with
    | none => (none, 9)
    | some x => (some (bldF x.1 x.2), 0)

def kyOk (N n : Nat) (k : Ky) : Prop := 0 ≤ k.1 ∧ k.1 < N ∧ 0 ≤ k.2.1 ∧ k.2.1 ≤ k.2.2 ∧ k.2.2 ≤ n
def kyGood (N n : Nat) (y : Ky) : Prop := (0 ≤ y.2.1 ∧ y.2.1 ≤ n) ∧ (0 ≤ y.1 → y.1 < N ∧ y.2.1 ≤ y.2.2 ∧ y.2.2 ≤ n)
theorem waysL_ky {ks : List Int} {N n : Nat} {F : List (List Bool)} {R : Nat → Nat → List (List Ky)} {s : Int} {l : List Int} {fr to m : Nat} (hs : 0 ≤ s → s < N) (hto : to ≤ n) (hR : ∀ j m', j ≤ to → ∀ w ∈ R j m', ∀ y ∈ w, kyGood N n y) : ∀ (L : List Nat) {out : List (List Ky)}, (∀ j ∈ L, j ≤ to) → (∀ w ∈ out, ∀ y ∈ w, kyGood N n y) → ∀ w ∈ L.foldl (waysS ks n F R s l fr to m) out, ∀ y ∈ w, kyGood N n y
  | [], _, _, h => h
  | j :: L, out, hL, h => waysL_ky hs hto hR L (fun q hq => hL q (by simp [hq])) (by
    have hjt := hL j (by simp)
    intro w hw
    unfold waysS at hw
    split at hw
    · rename_i hc
      rcases List.mem_append.1 hw with h1 | h1
      · exact h w h1
      · obtain ⟨v, hv, rfl⟩ := List.mem_map.1 h1
        intro y hy
        rcases List.mem_cons.1 hy with rfl | hy
        · have hc1 := hc.1
          refine ⟨by unfold kyOf; simp only; omega, fun h0 => ?_⟩
          unfold kyOf at h0 ⊢
          simp only at h0 ⊢
          split at h0
          · omega
          · rename_i hs0
            rw [if_neg hs0]
            have := hs (by omega)
            omega
        · exact hR j _ hjt v hv y hy
    · exact h w hw)
theorem waysF_ky {g : Gr} {ks : List Int} {N n : Nat} {F : List (List Bool)} (hN : g.names = N) : ∀ (l : List Int) (fr to m : Nat), (∀ s ∈ l, isSym g s) → to ≤ n → ∀ w ∈ waysF ks n F l fr to m, ∀ y ∈ w, kyGood N n y
  | [], fr, to, m, _, _, w, hw, y, hy => by unfold waysF at hw; split at hw <;> simp_all
  | s :: l, fr, to, m, hs, hto, w, hw, y, hy => by
    unfold waysF at hw
    refine waysL_ky (fun h0 => ?_) hto (fun j m' hj => waysF_ky hN l j to m' (fun t ht => hs t (by simp [ht])) hto) _ (fun j hj => by have := List.mem_range.1 hj; omega) (by simp) w hw y hy
    have := hs s (by simp)
    unfold isSym isKind isName at this
    omega

theorem mineL_ok {g : Gr} {ks : List Int} {N n lim : Nat} {F : List (List Bool)} {k : Ky} (fo : FormOk g N) (hN : g.names = N) (hto : k.2.2.toNat ≤ n) : ∀ (L : List Nat) (x : List Wy × Nat), (∀ j ∈ L, j < g.rules.length) → (∀ w ∈ x.1, w.2.length ≤ 8 ∧ ∀ y ∈ w.2, kyGood N n y) → ∀ w ∈ (L.foldl (mineS g ks n F lim k) x).1, w.2.length ≤ 8 ∧ ∀ y ∈ w.2, kyGood N n y
  | [], _, _, h => h
  | j :: L, x, hL, h => mineL_ok fo hN hto L _ (fun q hq => hL q (by simp [hq])) (by
    have hj := hL j (by simp)
    have hrm := List.mem_of_getElem? (ruleAt_at (g := g) (i := (j : Int)) (by omega) (by omega))
    intro w hw
    unfold mineS at hw
    split at hw
    · rcases List.mem_append.1 hw with h1 | h1
      · exact h w h1
      · obtain ⟨v, hv, rfl⟩ := List.mem_map.1 h1
        exact ⟨by simp only; rw [waysF_wid _ _ _ _ v hv]; exact fo.len _ hrm, waysF_ky hN _ _ _ _ (fo.sym _ hrm) hto v hv⟩
    · exact h w hw)
theorem mineF_ok {g : Gr} {ks : List Int} {N n lim : Nat} {F : List (List Bool)} {k : Ky} (fo : FormOk g N) (hN : g.names = N) (hto : k.2.2.toNat ≤ n) (c : Nat) : ∀ w ∈ (mineF g ks n F lim k c).1, w.2.length ≤ 8 ∧ ∀ y ∈ w.2, kyGood N n y :=
  mineL_ok fo hN hto _ _ (fun j hj => List.mem_range.1 hj) (by simp)

theorem mineL_le {g : Gr} {ks : List Int} {n lim : Nat} {F : List (List Bool)} {k : Ky} : ∀ (L : List Nat) (x : List Wy × Nat), x.2 ≤ (L.foldl (mineS g ks n F lim k) x).2
  | [], _ => Nat.le_refl _
  | j :: L, x => by
    rw [List.foldl_cons]
    refine Nat.le_trans ?_ (mineL_le L _)
    unfold mineS; split <;> simp
theorem mineF_le (g : Gr) (ks : List Int) (n lim : Nat) (F : List (List Bool)) (k : Ky) (c : Nat) : c ≤ (mineF g ks n F lim k c).2 := mineL_le (List.range g.rules.length) ([], c)
theorem keys_more {N n : Nat} : ∀ (l : List Ky) (x : List Ky × Nat), (∀ y ∈ l, kyGood N n y) → (∀ k ∈ x.1, kyOk N n k) → (∀ k ∈ (l.foldl newS x).1, kyOk N n k) ∧ x.1.length ≤ (l.foldl newS x).1.length ∧ (l.foldl newS x).1.length + x.2 = (l.foldl newS x).2 + x.1.length ∧ (l.foldl newS x).2 ≤ x.2 + l.length
  | [], x, _, h => ⟨h, Nat.le_refl _, Nat.add_comm _ _, Nat.le_refl _⟩
  | y :: l, x, hg, h => by
    have hy := hg y (by simp)
    have hst : (∀ k ∈ (newS x y).1, kyOk N n k) ∧ x.1.length ≤ (newS x y).1.length ∧ (newS x y).1.length + x.2 = (newS x y).2 + x.1.length ∧ (newS x y).2 ≤ x.2 + 1 := by
      unfold newS
      split
      · rename_i hc
        refine ⟨fun k hk => ?_, by simp, by simp only [List.length_append, List.length_singleton]; omega, Nat.le_refl _⟩
        rcases List.mem_append.1 hk with h1 | h1
        · exact h k h1
        · rw [List.mem_singleton.1 h1]
          have := hy.2 hc.1
          have := hy.1
          unfold kyOk
          have := hc.1
          omega
      · exact ⟨h, Nat.le_refl _, Nat.add_comm _ _, by omega⟩
    obtain ⟨h1, h2, h3, h4⟩ := keys_more l (newS x y) (fun z hz => hg z (by simp [hz])) hst.1
    rw [List.foldl_cons]
    refine ⟨h1, by omega, by omega, by rw [List.length_cons]; omega⟩

theorem findF_spec (k : Ky) : ∀ (l : List Ky) (i : Int), (findF k l i = -1 ∧ k ∉ l) ∨ ∃ j : Nat, l[j]? = some k ∧ findF k l i = i + (j : Int)
  | [], i => .inl ⟨rfl, by simp⟩
  | x :: l, i => by
    unfold findF
    split
    · rename_i h; exact .inr ⟨0, by simp [h], by simp⟩
    · rename_i h
      rcases findF_spec k l (i + 1) with ⟨h1, h2⟩ | ⟨j, h1, h2⟩
      · exact .inl ⟨h1, by simp [h2]; exact fun e => h e.symm⟩
      · exact .inr ⟨j + 1, by simpa using h1, by rw [h2]; push_cast; omega⟩
theorem findF_neg {k : Ky} {l : List Ky} : findF k l 0 < 0 ↔ k ∉ l := by
  rcases findF_spec k l 0 with ⟨h1, h2⟩ | ⟨j, h1, h2⟩
  · simp [h1, h2]
  · have := List.mem_of_getElem? h1
    simp [this]; omega
theorem findF_at {k : Ky} {l : List Ky} (h : k ∈ l) : l[(findF k l 0).toNat]? = some k ∧ 0 ≤ findF k l 0 ∧ findF k l 0 < l.length := by
  rcases findF_spec k l 0 with ⟨h1, h2⟩ | ⟨j, h1, h2⟩
  · exact absurd h h2
  · have hlt : j < l.length := (List.getElem?_eq_some_iff.1 h1).1
    rw [h2]
    exact ⟨by simpa using h1, by omega, by omega⟩
theorem sortL_mem {α : Type} (lt : α → α → Bool) : ∀ (l out : List α) {z : α}, z ∈ l.foldl (fun out x => insK lt x out) out ↔ z ∈ out ∨ z ∈ l
  | [], out, z => by simp
  | x :: l, out, z => by
    rw [List.foldl_cons, sortL_mem lt l, insK_mem]
    simp only [List.mem_cons]
    constructor
    · rintro ((h | h) | h) <;> simp [h]
    · rintro (h | h | h) <;> simp [h]
theorem sortK_mem {α : Type} {lt : α → α → Bool} {l : List α} {z : α} : z ∈ sortK lt l ↔ z ∈ l := by unfold sortK; rw [sortL_mem]; simp
theorem sortL_len {α : Type} (lt : α → α → Bool) : ∀ (l out : List α), (l.foldl (fun out x => insK lt x out) out).length = out.length + l.length
  | [], out => by simp
  | x :: l, out => by rw [List.foldl_cons, sortL_len lt l, insK_len, List.length_cons]; omega
theorem sortK_len {α : Type} {lt : α → α → Bool} {l : List α} : (sortK lt l).length = l.length := by unfold sortK; rw [sortL_len]; simp
def AllOk (N n lim : Nat) (all : List (List Wy)) : Prop := ∀ m ∈ all, m.length ≤ 2 * lim + 1 ∧ ∀ w ∈ m, w.2.length ≤ 8 ∧ ∀ y ∈ w.2, kyGood N n y
theorem getD_ok {N n lim : Nat} {all : List (List Wy)} (h : AllOk N n lim all) (i : Nat) : (all.getD i []).length ≤ 2 * lim + 1 ∧ ∀ w ∈ all.getD i [], w.2.length ≤ 8 ∧ ∀ y ∈ w.2, kyGood N n y := by
  rw [List.getD_eq_getElem?_getD]
  cases h1 : all[i]? with
  | none => simp
  | some m => exact h m (List.mem_of_getElem? h1)
theorem kidN_rng {order : List Ky} {N n : Nat} (hn : n ≤ 2000) (ho : order.length ≤ 200000) {y : Ky} (hy : kyGood N n y) : rng (kidN order y) := by
  unfold kidN rng
  split
  · have := hy.1; omega
  · rcases findF_spec y order 0 with ⟨h, _⟩ | ⟨j, h1, h2⟩
    · omega
    · have hlt : j < order.length := (List.getElem?_eq_some_iff.1 h1).1
      omega
theorem bldF_ok {N n lim : Nat} {keys : List Ky} {all : List (List Wy)} (hn : n ≤ 2000) (hlim : lim ≤ 100000) (hk : keys.length ≤ lim + 1) (h : AllOk N n lim all) : FoOk (bldF keys all) ∧ FoRng (bldF keys all) := by
  have key : ∀ nd ∈ (bldF keys all).nodes, nd.alts.length ≤ 2 * lim + 1 ∧ ∀ a ∈ nd.alts, a.kids.length ≤ 8 ∧ ∀ k ∈ a.kids, rng k := by
    intro nd hnd
    obtain ⟨k, hk1, rfl⟩ := List.mem_map.1 hnd
    obtain ⟨g1, g2⟩ := getD_ok h (findF k keys 0).toNat
    refine ⟨by unfold nodeN; simp only [sortK_len, List.length_map]; exact g1, fun a ha => ?_⟩
    obtain ⟨w, hw, rfl⟩ := List.mem_map.1 (sortK_mem.1 ha)
    obtain ⟨g3, g4⟩ := g2 w hw
    refine ⟨by unfold altN; simp only [List.length_map]; exact g3, fun x hx => ?_⟩
    obtain ⟨y, hy, rfl⟩ := List.mem_map.1 hx
    exact kidN_rng hn (by rw [sortK_len]; omega) (g4 y hy)
  refine ⟨⟨by unfold bldF; simp only [List.length_map, sortK_len]; omega, fun nd hnd => ?_⟩, fun nd hnd a ha k hk => ((key nd hnd).2 a ha).2 k hk⟩
  obtain ⟨h1, h2⟩ := key nd hnd
  exact ⟨by omega, fun a ha => by have := (h2 a ha).1; omega⟩
end Go.Proofs.Ytbnhmioijeagiaa.Ab

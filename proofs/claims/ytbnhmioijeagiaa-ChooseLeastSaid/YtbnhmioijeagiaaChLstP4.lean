/- Texts of this proof, one behind the other (For7, Unf6, UnR, Chk2, Chk3, Chk4, Chk5, Chk6, Cht1, Cht2, Cht3, Cht4, Cht5, Cht6). No condition. -/
import Derived.Test.YtbnhmioijeagiaaChLstP3
/- The reference's numbers of trees, and how deep: the walk. No condition. -/
set_option linter.unusedVariables false
set_option linter.unusedSimpArgs false
namespace Go.Proofs.Ytbnhmioijeagiaa.Ab
attribute [local irreducible] thenA inBlockA ACode AOps put IntKind.wrap

theorem isN_one : isN 1 := ⟨by decide, by decide⟩
theorem plus_calls {a b : Int} (ha : isN a) (hb : isN b) (M : List Ob) : ACalls Try.prog 90 [.int .i64 a, .int .i64 b] M (fun r M' => r = .int .i64 (addN a b) ∧ M' = M) := by
  obtain ⟨a0, a1⟩ := ha; obtain ⟨b0, b1⟩ := hb
  unfold great at a1 b1
  refine acalls_of_code 12 Try.func90 rfl rfl rfl ?_
  repeat' (first | refine aops_end ?_ | refine aops_a tok rfl (by omega) (by omega) rfl rfl rfl ?_ | (refine aops_pd tok rfl rfl rfl rfl ?_ ?_ <;> intro e_) | refine aops_p tok rfl rfl rfl rfl ?_ | refine acode_it rfl ?_ | refine acode_if rfl ?_ | refine acode_seq ?_ | refine acode_region ?_ | refine acode_skip ?_ | refine then_n ?_)
  · refine acode_ret ?_
    repeat (refine ret_then ?_)
    exact ⟨.int .i64 (addN a b), ⟨rfl, rfl⟩, resOf_tmp (by show A.int _ _ = A.int _ _; unfold addN great; rw [if_pos e_])⟩
  · refine acode_ret ?_
    skip
    exact ⟨.int .i64 (addN a b), ⟨rfl, rfl⟩, resOf_tmp (by show A.int _ _ = A.int _ _; unfold addN great; rw [if_neg e_])⟩

theorem rtimes_calls {a b : Int} (ha : isN a) (hb : isN b) (M : List Ob) : ACalls Try.prog 92 [.int .i64 a, .int .i64 b] M (fun r M' => r = .int .i64 (mulN a b) ∧ M' = M) := by
  obtain ⟨a0, a1⟩ := ha; obtain ⟨b0, b1⟩ := hb
  unfold great at a1 b1
  refine acalls_of_code 18 Try.func92 rfl rfl rfl ?_
  repeat' (first | refine aops_end ?_ | refine aops_o rfl rfl rfl ?_ | (refine aops_pd tok rfl rfl rfl rfl ?_ ?_ <;> intro e_) | refine aops_p tok rfl rfl rfl rfl ?_ | refine acode_it rfl ?_ | refine acode_if rfl ?_ | refine acode_seq ?_ | refine acode_region ?_ | refine acode_skip ?_ | refine then_n ?_)
  · refine acode_ret ?_
    repeat (refine ret_then ?_)
    exact ⟨.int .i64 (mulN a b), ⟨rfl, rfl⟩, resOf_tmp (by show A.int _ _ = A.int _ _; unfold mulN; rw [if_pos (.inl e_)])⟩
  · refine acode_ret ?_
    repeat (refine ret_then ?_)
    exact ⟨.int .i64 (mulN a b), ⟨rfl, rfl⟩, resOf_tmp (by show A.int _ _ = A.int _ _; unfold mulN; rw [if_pos (.inr e_)])⟩
  · rename_i e1
    have hne : ¬ (a = 0 ∨ b = 0) := by rintro (h | h); exact e1 h; exact e_ h
    have hb : 0 < b := by omega
    refine aops_quo rfl rfl rfl (by decide) (by decide) hb rfl rfl rfl ?_
    repeat' (first | refine aops_end ?_ | (refine aops_pd tok rfl rfl rfl rfl ?_ ?_ <;> intro e_) | refine aops_p tok rfl rfl rfl rfl ?_ | refine acode_it rfl ?_ | refine acode_if rfl ?_ | refine acode_seq ?_ | refine acode_region ?_ | refine acode_skip ?_ | refine then_n ?_)
    · refine acode_ret ?_
      repeat (refine ret_then ?_)
      exact ⟨.int .i64 (mulN a b), ⟨rfl, rfl⟩, resOf_tmp (by show A.int _ _ = A.int _ _; unfold mulN great; rw [if_neg hne, if_pos e_])⟩
    · have hle : a * b ≤ 4611686018427387903 := mul_le_of hb (by unfold great; omega)
      have h0 : 0 ≤ a * b := Int.mul_nonneg a0 b0
      have hwr : IntKind.i64.wrap (a * b) = a * b := wrap64_small (by omega) (by omega)
      refine acode_ret ?_
      skip
      exact ⟨.int .i64 (mulN a b), ⟨rfl, rfl⟩, resOf_tmp (by show A.int _ (IntKind.i64.wrap (a * b)) = A.int _ _; rw [hwr]; unfold mulN great; rw [if_neg hne, if_neg e_])⟩

/-- What a counter keeps. -/
structure Kp (f : Fo) (ks : List Int) : Prop where
  len : ks.length = f.nodes.length
  val : ∀ (j : Nat) x, ks[j]? = some x → x = -1 ∨ x = trees f j
abbrev wkC (f : Fo) (b bs : Nat) (ks : List Int) (M : List Ob) : List Ob :=
  ⟨some b, 3, [.psl f.nodes.length (encs ndC f.nodes), .int .i64 f.root, .own (some bs) f.nodes.length f.nodes.length]⟩ :: ⟨some bs, f.nodes.length * 1, ints ks⟩ :: M
/-- That a node is counted. -/
def CntN (f : Fo) (b bs : Nat) (M : List Ob) (i : Nat) : Prop := ∀ ks, Kp f ks →
  ACalls Try.prog 56 [.ref b 0, .int .i64 i] (wkC f b bs ks M) (fun r M' => r = .int .i64 (trees f i) ∧ ∃ ks', Kp f ks' ∧ M' = wkC f b bs ks' M)

theorem ralt_calls {f : Fo} {b bs : Nat} {M : List Ob} {a : Al} (ha : a.kids.length ≤ 9223372036854775807) (hw : ∀ k : Nat, (k : Int) ∈ a.kids → WF f k ∧ CntN f b bs M k) {ks : List Int} (hks : Kp f ks) :
    ACalls Try.prog 91 [.ref b 0, .agg (alC a)] (wkC f b bs ks M) (fun r M' => r = .int .i64 (altF (trees f) 1 a.kids) ∧ ∃ ks', Kp f ks' ∧ M' = wkC f b bs ks' M) := by
  refine acalls_of_code 30 Try.func91 rfl rfl rfl ?_
  repeat (first | refine acode_seq ?_ | refine acode_region ?_)
  refine aops_boxf rfl rfl rfl rfl rfl rfl rfl ?_
  repeat (first | refine aops_end ?_ | refine aops_p tok rfl rfl rfl rfl ?_ | refine acode_seq ?_ | refine acode_region ?_ | refine acode_block ?_)
  refine acode_loopS (ι := Nat × Int × List Int) (fun p => [(0, .ref b 0), (3, .pp (alC a)), (5, .int .i64 p.2.1), (6, .int .i64 p.1)]) (fun p => wkC f b bs p.2.2 M) (fun p => a.kids.length - p.1) (fun p => p.1 ≤ a.kids.length ∧ isN p.2.1 ∧ Kp f p.2.2 ∧ altF (trees f) p.2.1 (a.kids.drop p.1) = altF (trees f) 1 a.kids) (0, 1, ks) ⟨Nat.zero_le _, isN_one, hks, rfl⟩ ⟨rfl, rfl, rfl, rfl, trivial⟩ rfl ?_
  clear hks ks
  rintro ⟨i, n, ks⟩ ⟨hi, hn, hks, hF⟩
  simp only at hi hn hks hF ⊢
  repeat (first | refine aops_end ?_ | refine aops_p tok rfl rfl rfl rfl ?_ | refine acode_seq ?_ | refine acode_region ?_)
  refine acode_id rfl (fun e => ?_) (fun e => ?_)
  · have hil : i < a.kids.length := by omega
    obtain ⟨k, hk'⟩ : ∃ k, a.kids[i]? = some k := ⟨a.kids[i], List.getElem?_eq_getElem hil⟩
    have hkm := List.mem_of_getElem? hk'
    have hdr : a.kids.drop i = k :: a.kids.drop (i + 1) := by
      rw [List.drop_eq_getElem_cons hil]
      rw [List.getElem?_eq_getElem hil] at hk'
      rw [Option.some.inj hk']
    rw [hdr] at hF
    simp only [altF, List.foldl_cons] at hF
    repeat (first | refine aops_p tok rfl rfl rfl rfl ?_ | refine acode_seq ?_ | refine acode_region ?_ | refine acode_block ?_ | refine acode_skip ?_ | refine then_n ?_)
    refine aops_ix tok [A.int .i64 k] rfl rfl rfl rfl (by omega) (by omega) (by simp) (ints_at (j := i) (by simpa using hk')) rfl rfl rfl ?_
    repeat' (first | refine aops_end ?_ | refine aops_a tok rfl (by omega) (by omega) rfl rfl rfl ?_ | (refine aops_pd tok rfl rfl rfl rfl ?_ ?_ <;> intro e_) | refine aops_p tok rfl rfl rfl rfl ?_ | refine acode_it rfl ?_ | refine acode_if rfl ?_ | refine acode_region ?_ | refine acode_skip ?_ | refine then_n ?_ | refine block_n ?_)
    · obtain ⟨k', rfl⟩ : ∃ k' : Nat, k = k' := ⟨k.toNat, by omega⟩
      obtain ⟨hwk, hck⟩ := hw k' hkm
      refine aops_ix tok [A.int .i64 k'] rfl rfl rfl rfl (by omega) (by omega) (by simp) (ints_at (j := i) (by simpa using hk')) rfl rfl rfl ?_
      repeat (refine aops_p tok rfl rfl rfl rfl ?_)
      refine aops_call Try.func56 rfl rfl rfl rfl (hck ks hks) rfl rfl ?_
      rintro x M' ⟨rfl, ks2, hks2, rfl⟩
      repeat (refine aops_put rfl ?_)
      refine aops_callx Try.func92 rfl rfl rfl rfl (rtimes_calls hn (trees_is hwk) _) rfl rfl rfl ?_
      repeat (first | refine aops_end ?_ | refine aops_endb ?_ | refine aops_a tok rfl (by omega) (by omega) rfl rfl rfl ?_ | refine aops_p tok rfl rfl rfl rfl ?_ | refine acode_region ?_ | refine then_n ?_)
      rw [if_pos (by omega)] at hF
      exact ⟨(i + 1, mulN n (trees f k'), ks2), ⟨by simp; omega, mulN_is hn (trees_is hwk), hks2, hF⟩, by simp; omega, ⟨rfl, rfl, rfl, rfl, trivial⟩, rfl⟩
    · rw [if_neg (by omega)] at hF
      exact ⟨(i + 1, n, ks), ⟨by simp; omega, hn, hks, hF⟩, by simp; omega, ⟨rfl, rfl, rfl, rfl, trivial⟩, rfl⟩
  · have hge : i = a.kids.length := by omega
    subst hge
    rw [List.drop_length] at hF
    refine acode_exit ?_
    repeat (first | refine exit_then ?_ | refine exit_here ?_ | refine then_n ?_)
    repeat (first | refine aops_end ?_ | refine aops_p tok rfl rfl rfl rfl ?_ | refine acode_seq ?_ | refine acode_region ?_)
    refine acode_ret ?_
    skip
    exact ⟨_, ⟨by rw [← hF]; rfl, ks, hks, rfl⟩, resOf_tmp rfl⟩

theorem rnode_calls {f : Fo} (hf : FoOk f) (b bs : Nat) (M : List Ob) {i : Nat} (hwf : WF f i) : CntN f b bs M i := by
  obtain ⟨hf1, hf2⟩ := id hf
  induction hwf with
  | @mk i hi hkn hkw ih =>
  intro ks hks
  have hwf : WF f i := .mk hi hkn hkw
  have hlt : i < ks.length := by rw [hks.len]; exact hi
  obtain ⟨s, hs⟩ : ∃ s, ks[i]? = some s := ⟨ks[i], List.getElem?_eq_getElem hlt⟩
  have hsA : (ints ks)[i * 1]? = some (A.int .i64 s) := by rw [Nat.mul_one]; exact ints_get hs
  have hti := trees_is hwf
  refine acalls_of_code 54 Try.func56 rfl rfl rfl ?_
  repeat (first | refine aops_end ?_ | refine aops_p tok rfl rfl rfl rfl ?_ | refine aops_ld tok 0 rfl rfl rfl rfl rfl rfl rfl rfl ?_ | refine acode_seq ?_ | refine acode_region ?_)
  refine aops_ixo tok rfl rfl rfl rfl (by omega) (by omega) rfl rfl rfl ?_
  refine aops_ld tok 1 (y := .int .i64 s) rfl rfl rfl rfl (by rw [headed_eq]; exact hsA) rfl rfl rfl ?_
  repeat' (first | refine aops_end ?_ | (refine aops_pd tok rfl rfl rfl rfl ?_ ?_ <;> intro e_) | refine aops_p tok rfl rfl rfl rfl ?_ | refine acode_it rfl ?_ | refine acode_if rfl ?_ | refine aops_ld tok 0 rfl rfl rfl rfl rfl rfl rfl rfl ?_ | refine acode_seq ?_ | refine acode_region ?_ | refine acode_skip ?_ | refine then_n ?_)
  · refine aops_ixo tok rfl rfl rfl rfl (by omega) (by omega) rfl rfl rfl ?_
    refine aops_ld tok 1 (y := .int .i64 s) rfl rfl rfl rfl (by rw [headed_eq]; exact hsA) rfl rfl rfl ?_
    repeat (first | refine aops_end ?_ | refine aops_p tok rfl rfl rfl rfl ?_)
    have : s = trees f i := by rcases hks.val i s hs with h | h; omega; exact h
    subst this
    refine acode_ret ?_
    repeat (refine ret_then ?_)
    exact ⟨_, ⟨rfl, ks, hks, rfl⟩, resOf_tmp rfl⟩
  · obtain ⟨nd, hnd, hndm, hal⟩ := nodes_at hi
    obtain ⟨hal1, hal2⟩ := hf2 nd hndm
    refine aops_ix tok (ndC nd) rfl rfl rfl rfl (by omega) (by omega) (by simp [ndC]) (nd_at hnd) rfl rfl rfl ?_
    repeat (first | refine aops_end ?_ | refine aops_p tok rfl rfl rfl rfl ?_ | refine acode_seq ?_ | refine acode_region ?_ | refine acode_block ?_)
    refine acode_loopS (ι := Nat × List Int) (fun p => [(0, .ref b 0), (1, .int .i64 i), (6, .psl nd.alts.length (encs alC nd.alts)), (5, .int .i64 (altsF (trees f) 0 (nd.alts.take p.1))), (7, .int .i64 p.1)]) (fun p => wkC f b bs p.2 M) (fun p => nd.alts.length - p.1) (fun p => p.1 ≤ nd.alts.length ∧ Kp f p.2) (0, ks) ⟨Nat.zero_le _, hks⟩ ⟨rfl, rfl, rfl, rfl, rfl, trivial⟩ rfl ?_
    clear hsA hs hlt hks ks
    rintro ⟨q, ks⟩ ⟨hq, hks⟩
    simp only at hq hks ⊢
    repeat (first | refine aops_end ?_ | refine aops_p tok rfl rfl rfl rfl ?_ | refine acode_seq ?_ | refine acode_region ?_)
    refine acode_id rfl (fun e2 => ?_) (fun e2 => ?_)
    · have hql : q < nd.alts.length := by omega
      obtain ⟨a, ha⟩ : ∃ a, nd.alts[q]? = some a := ⟨nd.alts[q], List.getElem?_eq_getElem hql⟩
      have ham := List.mem_of_getElem? ha
      have hkd : ∀ k : Nat, (k : Int) ∈ a.kids → Kid f i k := fun k hk => ⟨a, by rw [hal]; exact ham, hk⟩
      have hsum := altsF_add (trees f) ha
      have hsN : isN (altsF (trees f) 0 (nd.alts.take q)) := altsF_is _ _ ⟨by decide, by decide⟩ fun b hb k hk => trees_is (hkw k ⟨b, by rw [hal]; exact List.mem_of_mem_take hb, hk⟩)
      have haN : isN (altF (trees f) 1 a.kids) := altF_is _ _ ⟨by decide, by decide⟩ fun k hk => trees_is (hkw k (hkd k hk))
      repeat (first | refine aops_p tok rfl rfl rfl rfl ?_ | refine acode_seq ?_ | refine acode_region ?_ | refine acode_block ?_ | refine acode_skip ?_ | refine then_n ?_)
      refine aops_ix tok (alC a) rfl rfl rfl rfl (by omega) (by omega) (by simp [alC]) (al_at ha) rfl rfl rfl ?_
      repeat (refine aops_p tok rfl rfl rfl rfl ?_)
      refine aops_call Try.func91 rfl rfl rfl rfl (ralt_calls (by have := hal2 a ham; omega) (fun k hk => ⟨hkw k (hkd k hk), ih k (hkd k hk)⟩) hks) rfl rfl ?_
      rintro x M' ⟨rfl, ks2, hks2, rfl⟩
      repeat (refine aops_put rfl ?_)
      refine aops_callx Try.func90 rfl rfl rfl rfl (plus_calls hsN haN _) rfl rfl rfl ?_
      rw [← hsum]
      repeat (first | refine aops_end ?_ | refine aops_endb ?_ | refine aops_a tok rfl (by omega) (by omega) rfl rfl rfl ?_ | refine aops_p tok rfl rfl rfl rfl ?_ | refine acode_region ?_ | refine then_n ?_)
      exact ⟨(q + 1, ks2), ⟨by simp; omega, hks2⟩, by simp; omega, ⟨rfl, rfl, rfl, rfl, rfl, trivial⟩, rfl⟩
    · have hge : q = nd.alts.length := by omega
      subst hge
      have heq := trees_eq hwf
      rw [hal] at heq
      rw [List.take_length, ← heq]
      have hlt : i < ks.length := by rw [hks.len]; exact hi
      refine acode_exit ?_
      repeat (first | refine exit_then ?_ | refine exit_here ?_ | refine then_n ?_)
      repeat (first | refine aops_p tok rfl rfl rfl rfl ?_ | refine aops_ld tok 0 rfl rfl rfl rfl rfl rfl rfl rfl ?_ | refine acode_seq ?_ | refine acode_region ?_)
      refine aops_ixo tok rfl rfl rfl rfl (by omega) (by omega) rfl rfl rfl ?_
      refine aops_stk tok 1 (ints (ks.set i (trees f i))) (wkC f b bs (ks.set i (trees f i)) M) rfl rfl rfl rfl rfl rfl (by rw [ints_len]; show i * 1 + 1 ≤ _; omega) (ints_set1 hlt _) rfl rfl rfl ?_
      repeat (first | refine aops_end ?_ | refine aops_p tok rfl rfl rfl rfl ?_ | refine acode_seq ?_ | refine acode_region ?_)
      refine acode_ret ?_
      skip
      refine ⟨_, ⟨rfl, ks.set i (trees f i), ⟨by simp [hks.len], fun j x hx => ?_⟩, rfl⟩, resOf_tmp rfl⟩
      rw [List.getElem?_set] at hx
      by_cases h : i = j
      · subst h; rw [if_pos rfl, if_pos hlt] at hx; exact .inr (Option.some.inj hx).symm
      · rw [if_neg h] at hx; exact hks.val j x hx

theorem counts_calls {f : Fo} (hf : FoOk f) (M : List Ob) : ACalls Try.prog 55 [foA f] M (fun r M' => ∃ z : List Nat, r = .ref (z.headD 0) 0 ∧ M' = wkC f (z.headD 0) (z.getD 1 0) (List.replicate f.nodes.length (-1)) M) := by
  obtain ⟨hf1, hf2⟩ := id hf
  refine acalls_of_code 28 Try.func55 rfl rfl rfl ?_
  repeat (first | refine acode_seq ?_ | refine acode_region ?_)
  refine aops_boxf rfl rfl rfl rfl rfl rfl rfl ?_
  repeat (first | refine aops_end ?_ | refine aops_p tok rfl rfl rfl rfl ?_ | refine acode_seq ?_)
  refine acode_drawP [] 7 [0, 1, 2, 3, 4, 5, 6] [4, 6] mixed (by kernel_rfl) (by kernel_rfl) rfl ?_
  repeat (refine seqO_p tok rfl rfl rfl rfl rfl ?_)
  refine seqO_mk tok f.nodes.length rfl rfl rfl rfl rfl rfl rfl (by show _ * 8 ≤ _; omega) (by omega) (by simp) rfl rfl rfl fun bs => ?_
  repeat (refine seqO_p tok rfl rfl rfl rfl rfl ?_)
  refine seqO_boxo rfl rfl rfl rfl (by simp) rfl rfl rfl rfl fun b => ?_
  refine SeqO.done ?_
  repeat (refine aops_p tok rfl rfl rfl rfl ?_)
  refine aops_end ?_
  refine acode_M (M' := wkC f b bs (List.replicate f.nodes.length 0) M) (by simp only [wkC]; rw [← ints_zeros]; rfl) ?_
  repeat (first | refine aops_end ?_ | refine aops_p tok rfl rfl rfl rfl ?_ | refine acode_seq ?_ | refine acode_region ?_ | refine acode_block ?_)
  refine acode_loopS (ι := Nat) (fun p => [(3, .ref b 0), (4, .int .i64 p)]) (fun p => wkC f b bs (List.replicate p (-1) ++ List.replicate (f.nodes.length - p) 0) M) (fun p => f.nodes.length - p) (fun p => p ≤ f.nodes.length) 0 (Nat.zero_le _) ⟨rfl, rfl, trivial⟩ (by simp) ?_
  intro p hp
  repeat (first | refine aops_end ?_ | refine aops_p tok rfl rfl rfl rfl ?_ | refine aops_ld tok 0 rfl rfl rfl rfl rfl rfl rfl rfl ?_ | refine acode_seq ?_ | refine acode_region ?_)
  refine acode_id rfl (fun e => ?_) (fun e => ?_)
  · have hpl : p < f.nodes.length := by omega
    have hset : (List.replicate p (-1 : Int) ++ List.replicate (f.nodes.length - p) 0).set p (-1) = List.replicate (p + 1) (-1) ++ List.replicate (f.nodes.length - (p + 1)) 0 := by
      rw [List.set_append_right _ _ (by simp)]
      simp only [List.length_replicate, Nat.sub_self]
      rw [show f.nodes.length - p = (f.nodes.length - (p + 1)) + 1 from by omega, List.replicate_succ, List.set_cons_zero, List.replicate_succ', List.append_assoc]
      rfl
    have hlen : (List.replicate p (-1 : Int) ++ List.replicate (f.nodes.length - p) 0).length = f.nodes.length := by simp; omega
    generalize List.replicate p (-1 : Int) ++ List.replicate (f.nodes.length - p) 0 = ks at *
    repeat (first | refine aops_p tok rfl rfl rfl rfl ?_ | refine aops_ld tok 0 rfl rfl rfl rfl rfl rfl rfl rfl ?_ | refine acode_seq ?_ | refine acode_region ?_ | refine acode_block ?_ | refine acode_skip ?_ | refine then_n ?_)
    refine aops_ixo tok rfl rfl rfl rfl (by omega) (by omega) rfl rfl rfl ?_
    refine aops_stk tok 1 (ints (ks.set p (-1))) (wkC f b bs (ks.set p (-1)) M) rfl rfl rfl rfl rfl rfl (by rw [ints_len, hlen]; show p * 1 + 1 ≤ _; omega) (ints_set1 (by omega) _) rfl rfl rfl ?_
    repeat (first | refine aops_end ?_ | refine aops_endb ?_ | refine aops_a tok rfl (by omega) (by omega) rfl rfl rfl ?_ | refine aops_p tok rfl rfl rfl rfl ?_ | refine acode_region ?_ | refine then_n ?_)
    exact ⟨p + 1, by omega, by omega, ⟨rfl, rfl, trivial⟩, by rw [hset]⟩
  · have hge : p = f.nodes.length := by omega
    subst hge
    refine acode_exit ?_
    repeat (first | refine exit_then ?_ | refine exit_here ?_ | refine then_n ?_)
    repeat (first | refine aops_end ?_ | refine aops_p tok rfl rfl rfl rfl ?_ | refine acode_seq ?_ | refine acode_region ?_)
    refine acode_ret ?_
    skip
    exact ⟨_, ⟨[b, bs], rfl, by simp⟩, resOf_tmp rfl⟩

theorem rtrees_calls {f : Fo} (hf : FoOk f) (M : List Ob) : ACalls Try.prog 21 [foA f] M (fun r M' => (FForm f ∧ r = .tup [.int .i64 (trees f f.root.toNat), .bool (decide (trees f f.root.toNat < great))] ∨ ¬ FForm f ∧ r = .tup [.int .i64 0, .bool false]) ∧ M' = M) := by
  obtain ⟨hf1, hf2⟩ := id hf
  refine acalls_of_code 16 Try.func21 rfl rfl rfl ?_
  repeat (first | refine acode_seq ?_ | refine acode_region ?_)
  refine aops_boxf rfl rfl rfl rfl rfl rfl rfl ?_
  repeat (first | refine aops_end ?_ | refine aops_p tok rfl rfl rfl rfl ?_ | refine acode_seq ?_ | refine acode_region ?_)
  refine aops_call Try.func43 rfl rfl rfl rfl (rfform_calls hf M) rfl rfl ?_
  rintro x M' ⟨hx, hM⟩
  obtain rfl : M = M' := hM.symm
  rcases hx with ⟨h, rfl⟩ | ⟨h, rfl⟩
  · obtain ⟨⟨h0, h1⟩, hw⟩ := id h
    obtain ⟨r, hr⟩ : ∃ r : Nat, f.root = r := ⟨f.root.toNat, by omega⟩
    have hwr : WF f r := hw r (by omega)
    repeat' (first | refine aops_put rfl ?_ | refine aops_end ?_ | refine aops_p tok rfl rfl rfl rfl ?_ | refine acode_if rfl ?_ | refine acode_seq ?_ | refine acode_skip ?_ | refine then_n ?_)
    refine acode_drawP [] 4 [0, 2, 3, 1] [3] mixed (by kernel_rfl) (by kernel_rfl) rfl ?_
    repeat (refine seqO_p tok rfl rfl rfl rfl rfl ?_)
    refine seqO_callm (fun z => .ref (z.headD 0) 0) (fun z => wkC f (z.headD 0) (z.getD 1 0) (List.replicate f.nodes.length (-1)) []) rfl Try.func55 rfl rfl rfl rfl (counts_calls hf M) (by simp) rfl rfl rfl fun z => ?_
    refine SeqO.done ?_
    generalize z.headD 0 = b
    generalize z.getD 1 0 = bs
    rw [hr]
    refine aops_call Try.func56 rfl rfl rfl rfl (rnode_calls hf b bs M hwr _ ⟨by simp, fun j x hx => .inl ?_⟩) rfl rfl ?_
    · rw [List.getElem?_replicate] at hx
      split at hx
      · exact (Option.some.inj hx).symm
      · cases hx
    rintro x M' ⟨rfl, ks2, hks2, rfl⟩
    repeat (first | refine aops_put rfl ?_ | refine aops_end ?_ | refine aops_p tok rfl rfl rfl rfl ?_ | refine acode_seq ?_ | refine acode_region ?_)
    refine acode_drop0 (acode_drop0 (acode_ret ?_))
    skip
    exact ⟨_, ⟨.inl ⟨h, by rw [Int.toNat_natCast]; rfl⟩, rfl⟩, _, _, rfl, resOf_tmp rfl, resOf_tmp rfl⟩
  · repeat' (first | refine aops_put rfl ?_ | refine aops_end ?_ | refine aops_p tok rfl rfl rfl rfl ?_ | refine acode_it rfl ?_ | refine acode_seq ?_ | refine acode_region ?_)
    refine acode_ret ?_
    repeat (refine ret_then ?_)
    exact ⟨_, ⟨.inr ⟨h, rfl⟩, rfl⟩, _, _, rfl, resOf_tmp rfl, resOf_tmp rfl⟩
end Go.Proofs.Ytbnhmioijeagiaa.Ab
/- How large the largest tree is: the walk. No condition. -/
set_option linter.unusedVariables false
set_option linter.unusedSimpArgs false
namespace Go.Proofs.Ytbnhmioijeagiaa.Ab
attribute [local irreducible] thenA inBlockA ACode AOps put IntKind.wrap

theorem big_lim {f : Fo} {i : Nat} (h : WF f i) : big f i ≤ 1000000 → Lim f i := by
  induction h with
  | @mk i hi hk hs ih =>
    intro hb
    have hwf : WF f i := .mk hi hk hs
    have hbM : bigM = 1099511627776 := rfl
    have hbe := big_eq hwf
    unfold bigN at hbe
    have h2 : bigA (big f) 0 (altsOf f i) + 1 = big f i := by
      split at hbe
      · omega
      · exact hbe.symm
    have key : ∀ a ∈ altsOf f i, wgt (big f) a.kids ≤ 1000000 := fun a ha => by
      have h1 := (bigA_mem (g := big f) (altsOf f i) 0 a ha).1
      have h3 := bigK_exact (g := big f) a.kids 0 (fun k hm => (big_is (hs k ⟨a, ha, hm⟩)).1) (by omega)
      omega
    refine .mk (fun a ha => ?_) (fun k ⟨a, ha, hm⟩ => ih k ⟨a, ha, hm⟩ ?_)
    · have := wgt_len (g := big f) a.kids (fun k hm => (big_is (hs k ⟨a, ha, hm⟩)).1)
      have := key a ha
      omega
    · have := wgt_mem (g := big f) a.kids (fun k hm => (big_is (hs k ⟨a, ha, hm⟩)).1) k hm
      have := key a ha
      omega
/-- What the reference keeps. -/
structure Kb (f : Fo) (ks : List Int) : Prop where
  len : ks.length = f.nodes.length
  val : ∀ (j : Nat) x, ks[j]? = some x → x = 0 ∨ x = big f j
def BigN (f : Fo) (bs : Nat) (M : List Ob) (i : Nat) : Prop := ∀ ks, Kb f ks →
  ACalls Try.prog 44 [foA f, .own (some bs) f.nodes.length f.nodes.length, .int .i64 i] (⟨some bs, f.nodes.length * 1, ints ks⟩ :: M) (fun r M' => r = .int .i64 (big f i) ∧ ∃ ks', Kb f ks' ∧ M' = ⟨some bs, f.nodes.length * 1, ints ks'⟩ :: M)
theorem bigK_step {g : Nat → Int} {ks : List Int} {r : Nat} {k x : Int} (h : ks[r]? = some k) (hx : x < bigM) : bigK g x (ks.drop r) = bigK g (if 0 ≤ k then x + g k.toNat else x + 1) (ks.drop (r + 1)) := by
  rw [drop_at h]; simp only [bigK]; rw [if_pos hx]
theorem bigK_stop {g : Nat → Int} {ks : List Int} {r : Nat} {x : Int} (hx : ¬ x < bigM) : bigK g x (ks.drop r) = x := by
  cases h : ks.drop r with
  | nil => rfl
  | cons k l => simp only [bigK]; rw [if_neg hx]
theorem bigA_step {g : Nat → Int} {l : List Al} {q : Nat} {a : Al} {m : Int} (h : l[q]? = some a) : bigA g m (l.drop q) = bigA g (if bigK g 0 a.kids > m then bigK g 0 a.kids else m) (l.drop (q + 1)) := by
  rw [drop_at h]; rfl

set_option maxHeartbeats 8000000 in
theorem large_calls {f : Fo} (hf : FoOk f) (bs : Nat) (M : List Ob) {i : Nat} (hwf : WF f i) : BigN f bs M i := by
  obtain ⟨hf1, hf2⟩ := id hf
  induction hwf with
  | @mk i hi hkn hkw ih =>
  intro ks hks
  have hwf : WF f i := .mk hi hkn hkw
  have hbM : bigM = 1099511627776 := rfl
  have hlt : i < ks.length := by rw [hks.len]; exact hi
  obtain ⟨s, hs⟩ : ∃ s, ks[i]? = some s := ⟨ks[i], List.getElem?_eq_getElem hlt⟩
  have hsA : (ints ks)[i * 1]? = some (A.int .i64 s) := by rw [Nat.mul_one]; exact ints_get hs
  obtain ⟨hd1, hd2⟩ := big_is hwf
  refine acalls_of_code 84 Try.func44 rfl rfl rfl ?_
  repeat (first | refine acode_seq ?_ | refine acode_region ?_)
  refine aops_boxf rfl rfl rfl rfl rfl rfl rfl ?_
  repeat (first | refine aops_end ?_ | refine aops_p tok rfl rfl rfl rfl ?_ | refine acode_seq ?_ | refine acode_region ?_)
  refine aops_ixo tok rfl rfl rfl rfl (by omega) (by omega) rfl rfl rfl ?_
  refine aops_ld tok 0 (y := .int .i64 s) rfl rfl rfl rfl (by rw [headed_eq]; exact hsA) rfl rfl rfl ?_
  repeat' (first | refine aops_end ?_ | (refine aops_pd tok rfl rfl rfl rfl ?_ ?_ <;> intro e_) | refine aops_p tok rfl rfl rfl rfl ?_ | refine acode_it rfl ?_ | refine acode_if rfl ?_ | refine acode_seq ?_ | refine acode_region ?_ | refine acode_skip ?_ | refine then_n ?_)
  · refine aops_ixo tok rfl rfl rfl rfl (by omega) (by omega) rfl rfl rfl ?_
    refine aops_ld tok 0 (y := .int .i64 s) rfl rfl rfl rfl (by rw [headed_eq]; exact hsA) rfl rfl rfl ?_
    repeat (first | refine aops_end ?_ | refine aops_p tok rfl rfl rfl rfl ?_)
    have : s = big f i := by rcases hks.val i s hs with h | h; omega; exact h
    subst this
    refine acode_ret ?_
    repeat (refine ret_then ?_)
    exact ⟨_, ⟨rfl, ks, hks, rfl⟩, resOf_tmp rfl⟩
  · obtain ⟨nd, hnd, hndm, hal⟩ := nodes_at hi
    obtain ⟨hal1, hal2⟩ := hf2 nd hndm
    have heq := big_eq hwf
    unfold bigN at heq
    rw [hal] at heq
    have hkd : ∀ a ∈ nd.alts, ∀ k : Nat, (k : Int) ∈ a.kids → Kid f i k := fun a ha k hk => ⟨a, by rw [hal]; exact ha, hk⟩
    refine aops_ix tok (ndC nd) rfl rfl rfl rfl (by omega) (by omega) (by simp [ndC]) (nd_at hnd) rfl rfl rfl ?_
    repeat (first | refine aops_end ?_ | refine aops_p tok rfl rfl rfl rfl ?_ | refine acode_seq ?_ | refine acode_region ?_ | refine acode_block ?_)
    refine acode_loopS (ι := Nat × Int × List Int) (fun p => [(1, .own (some bs) f.nodes.length f.nodes.length), (2, .int .i64 i), (3, .pp (foC f)), (8, .psl nd.alts.length (encs alC nd.alts)), (7, .int .i64 p.2.1), (9, .int .i64 p.1)]) (fun p => ⟨some bs, f.nodes.length * 1, ints p.2.2⟩ :: M) (fun p => nd.alts.length - p.1) (fun p => p.1 ≤ nd.alts.length ∧ Kb f p.2.2 ∧ (0 ≤ p.2.1 ∧ p.2.1 ≤ 2 * bigM) ∧ bigA (big f) p.2.1 (nd.alts.drop p.1) = bigA (big f) 0 nd.alts) (0, 0, ks) ⟨Nat.zero_le _, hks, ⟨show (0 : Int) ≤ 0 from by decide, show (0 : Int) ≤ 2 * bigM from by decide⟩, rfl⟩ ⟨rfl, rfl, rfl, rfl, rfl, rfl, trivial⟩ rfl ?_
    clear hsA hs hlt hks ks
    rintro ⟨q, m, ks⟩ ⟨hq, hks, hm, hgo⟩
    simp only at hq hks hm hgo ⊢
    repeat (first | refine aops_end ?_ | refine aops_p tok rfl rfl rfl rfl ?_ | refine acode_seq ?_ | refine acode_region ?_)
    refine acode_id rfl (fun e2 => ?_) (fun e2 => ?_)
    · have hql : q < nd.alts.length := by omega
      obtain ⟨a, ha⟩ : ∃ a, nd.alts[q]? = some a := ⟨nd.alts[q], List.getElem?_eq_getElem hql⟩
      have ham := List.mem_of_getElem? ha
      have hkl := hal2 a ham
      rw [bigA_step ha] at hgo
      refine acode_skip ?_
      repeat (refine then_n ?_)
      refine acode_seq ?_
      refine acode_block ?_
      refine acode_seq ?_
      refine acode_region ?_
      repeat (refine aops_p tok rfl rfl rfl rfl ?_)
      refine aops_end ?_
      refine acode_seq ?_
      refine acode_joinI (ι := List Int) (fun _ => [(1, .own (some bs) f.nodes.length f.nodes.length), (2, .int .i64 i), (3, .pp (foC f)), (8, .psl nd.alts.length (encs alC nd.alts)), (7, .int .i64 m), (9, .int .i64 q), (10, .int .i64 (bigK (big f) 0 a.kids))]) (fun ks => ⟨some bs, f.nodes.length * 1, ints ks⟩ :: M) (Kb f) ?_ ?_
      · repeat (first | refine aops_end ?_ | refine aops_p tok rfl rfl rfl rfl ?_ | refine acode_seq ?_ | refine acode_region ?_ | refine acode_block ?_)
        refine acode_loopS (ι := Nat × Int × List Int) (fun p => [(1, .own (some bs) f.nodes.length f.nodes.length), (2, .int .i64 i), (3, .pp (foC f)), (8, .psl nd.alts.length (encs alC nd.alts)), (7, .int .i64 m), (9, .int .i64 q), (11, .int .i64 p.1), (10, .int .i64 p.2.1)]) (fun p => ⟨some bs, f.nodes.length * 1, ints p.2.2⟩ :: M) (fun p => a.kids.length - p.1) (fun p => p.1 ≤ a.kids.length ∧ Kb f p.2.2 ∧ (0 ≤ p.2.1 ∧ p.2.1 ≤ 2 * bigM) ∧ bigK (big f) p.2.1 (a.kids.drop p.1) = bigK (big f) 0 a.kids) (0, 0, ks) ⟨Nat.zero_le _, hks, ⟨show (0 : Int) ≤ 0 from by decide, show (0 : Int) ≤ 2 * bigM from by decide⟩, rfl⟩ ⟨rfl, rfl, rfl, rfl, rfl, rfl, rfl, rfl, trivial⟩ rfl ?_
        clear hks ks
        rintro ⟨r, x, ks⟩ ⟨hr, hks, hx, hgo2⟩
        simp only at hr hks hx hgo2 ⊢
        repeat (first | refine aops_p tok rfl rfl rfl rfl ?_ | refine acode_seq ?_ | refine acode_region ?_)
        refine aops_ix tok (alC a) rfl rfl rfl rfl (by omega) (by omega) (by simp [alC]) (al_at ha) rfl rfl rfl ?_
        repeat' (first | refine aops_end ?_ | refine aops_o rfl rfl rfl ?_ | (refine aops_pd tok rfl rfl rfl rfl ?_ ?_ <;> intro e_) | refine aops_p tok rfl rfl rfl rfl ?_ | refine acode_it rfl ?_ | refine acode_if rfl ?_ | refine acode_seq ?_ | refine acode_region ?_ | refine acode_block ?_ | refine acode_skip ?_ | refine then_n ?_)
        · -- on
          have hrl : r < a.kids.length := by omega
          have hxM : x < bigM := by omega
          obtain ⟨k, hk⟩ : ∃ k, a.kids[r]? = some k := ⟨a.kids[r], List.getElem?_eq_getElem hrl⟩
          have hkm := List.mem_of_getElem? hk
          rw [bigK_step hk hxM] at hgo2
          refine aops_ix tok (alC a) rfl rfl rfl rfl (by omega) (by omega) (by simp [alC]) (al_at ha) rfl rfl rfl ?_
          repeat (refine aops_p tok rfl rfl rfl rfl ?_)
          refine aops_ix tok [A.int .i64 k] rfl rfl rfl rfl (by omega) (by omega) (by simp) (ints_at (j := r) (by simpa using hk)) rfl rfl rfl ?_
          repeat' (first | refine aops_end ?_ | refine aops_endb ?_ | refine aops_a tok rfl (by omega) (by omega) rfl rfl rfl ?_ | (refine aops_pd tok rfl rfl rfl rfl ?_ ?_ <;> intro e_) | refine aops_p tok rfl rfl rfl rfl ?_ | refine acode_it rfl ?_ | refine acode_if rfl ?_ | refine acode_region ?_ | refine then_n ?_)
          · rw [if_neg (by omega)] at hgo2
            exact ⟨(r + 1, x + 1, ks), ⟨by simp only; omega, hks, by simp only; omega, hgo2⟩, by simp only; omega, ⟨rfl, rfl, rfl, rfl, rfl, rfl, rfl, rfl, trivial⟩, rfl⟩
          · obtain ⟨k', rfl⟩ : ∃ k' : Nat, k = k' := ⟨k.toNat, by omega⟩
            rw [if_pos (by omega), Int.toNat_natCast] at hgo2
            have hkk := hkd a ham k' hkm
            obtain ⟨hk1, hk2⟩ := big_is (hkw k' hkk)
            obtain ⟨dk, hdk1, hdk2⟩ := decP (Kb f) hks
            refine acode_drawP [] 12 [0, 1, 2, 3, 4, 5, 6, 7, 8, 9, 10, 11] [11] mixed (by kernel_rfl) (by kernel_rfl) rfl ?_
            repeat (refine seqO_p tok rfl rfl rfl rfl rfl ?_)
            refine seqO_ix tok (alC a) rfl rfl rfl rfl rfl (by omega) (by omega) (by simp [alC]) (al_at ha) rfl rfl rfl ?_
            repeat (refine seqO_p tok rfl rfl rfl rfl rfl ?_)
            refine seqO_ix tok [A.int .i64 k'] rfl rfl rfl rfl rfl (by omega) (by omega) (by simp) (ints_at (j := r) (by simpa using hk)) rfl rfl rfl ?_
            repeat (refine seqO_p tok rfl rfl rfl rfl rfl ?_)
            refine seqO_callw (fun _ => .int .i64 (big f k')) (fun z => ⟨some bs, f.nodes.length * 1, ints (dk z)⟩ :: M) rfl Try.func44 rfl rfl rfl rfl ((ih k' hkk ks hks).mono ?_) (by simp) rfl rfl rfl fun z => ?_
            · rintro r M' ⟨rfl, ks', hks', rfl⟩
              obtain ⟨z, hz⟩ := hdk2 ks' hks'
              exact ⟨z, rfl, by rw [hz]⟩
            refine SeqO.done ?_
            repeat (first | refine aops_end ?_ | refine aops_endb ?_ | refine aops_a tok rfl (by omega) (by omega) rfl rfl rfl ?_ | refine aops_p tok rfl rfl rfl rfl ?_ | refine acode_region ?_ | refine then_n ?_)
            exact ⟨(r + 1, x + big f k', dk z), ⟨by simp only; omega, hdk1 z, by simp only; omega, hgo2⟩, by simp only; omega, ⟨rfl, rfl, rfl, rfl, rfl, rfl, rfl, rfl, trivial⟩, rfl⟩
        · rw [bigK_stop (by omega)] at hgo2
          subst hgo2
          refine acode_exit ?_
          repeat (first | refine exit_then ?_ | refine exit_here ?_ | refine then_n ?_)
          exact ⟨ks, hks, ⟨rfl, rfl, rfl, rfl, rfl, rfl, rfl, trivial⟩, rfl⟩
        · have hge : r = a.kids.length := by omega
          subst hge
          rw [List.drop_length] at hgo2
          have hgo2 : x = bigK (big f) 0 a.kids := hgo2
          subst hgo2
          refine acode_exit ?_
          repeat (first | refine exit_then ?_ | refine exit_here ?_ | refine then_n ?_)
          exact ⟨ks, hks, ⟨rfl, rfl, rfl, rfl, rfl, rfl, rfl, trivial⟩, rfl⟩
      · clear hks ks
        intro ks hks
        have hb := bigK_is (g := big f) a.kids 0 ⟨by decide, by decide⟩ (fun k hk => by have := big_is (hkw k (hkd a ham k hk)); exact ⟨by omega, this.2⟩)
        generalize bigK (big f) 0 a.kids = x at *
        repeat' (first | refine aops_end ?_ | refine aops_endb ?_ | refine aops_a tok rfl (by omega) (by omega) rfl rfl rfl ?_ | (refine aops_pd tok rfl rfl rfl rfl ?_ ?_ <;> intro e_) | refine aops_p tok rfl rfl rfl rfl ?_ | refine acode_it rfl ?_ | refine acode_if rfl ?_ | refine acode_seq ?_ | refine acode_region ?_ | refine acode_skip ?_ | refine then_n ?_ | refine block_n ?_)
        · rw [if_pos (by omega)] at hgo
          exact ⟨(q + 1, x, ks), ⟨by simp only; omega, hks, hb, hgo⟩, by simp only; omega, ⟨rfl, rfl, rfl, rfl, rfl, rfl, trivial⟩, rfl⟩
        · rw [if_neg (by omega)] at hgo
          exact ⟨(q + 1, m, ks), ⟨by simp only; omega, hks, hm, hgo⟩, by simp only; omega, ⟨rfl, rfl, rfl, rfl, rfl, rfl, trivial⟩, rfl⟩
    · have hge : q = nd.alts.length := by omega
      subst hge
      rw [List.drop_length] at hgo
      have hgo : m = bigA (big f) 0 nd.alts := hgo
      rw [← hgo] at heq
      have hlt : i < ks.length := by rw [hks.len]; exact hi
      have fin : ∀ v, v = big f i → Kb f (ks.set i v) := fun v hv => ⟨by simp [hks.len], fun j x hx => by
        rw [List.getElem?_set] at hx
        by_cases h : i = j
        · subst h; rw [if_pos rfl, if_pos hlt] at hx; rw [← hv]; exact .inr (Option.some.inj hx).symm
        · rw [if_neg h] at hx; exact hks.val j x hx⟩
      refine acode_exit ?_
      repeat (first | refine exit_then ?_ | refine exit_here ?_ | refine then_n ?_)
      repeat' (first | refine aops_end ?_ | refine aops_a tok rfl (by omega) (by omega) rfl rfl rfl ?_ | (refine aops_pd tok rfl rfl rfl rfl ?_ ?_ <;> intro e_) | refine aops_p tok rfl rfl rfl rfl ?_ | refine acode_it rfl ?_ | refine acode_if rfl ?_ | refine acode_seq ?_ | refine acode_region ?_ | refine acode_skip ?_ | refine then_n ?_)
      · rw [if_pos (by omega)] at heq
        refine aops_ixo tok rfl rfl rfl rfl (by omega) (by omega) rfl rfl rfl ?_
        refine aops_sto tok (ints (ks.set i (1099511627775 + 1))) rfl rfl rfl rfl rfl (by rw [ints_len]; show i * 1 + 1 ≤ _; omega) (ints_set1 hlt _) rfl rfl ?_
        repeat (first | refine aops_end ?_ | refine aops_a tok rfl (by omega) (by omega) rfl rfl rfl ?_ | refine aops_p tok rfl rfl rfl rfl ?_ | refine acode_seq ?_ | refine acode_region ?_)
        refine acode_ret ?_
        skip
        exact ⟨.int .i64 (1099511627775 + 1), ⟨by rw [heq]; rfl, _, fin _ (by rw [heq]; rfl), rfl⟩, resOf_tmp rfl⟩
      · rw [if_neg (by omega)] at heq
        refine aops_ixo tok rfl rfl rfl rfl (by omega) (by omega) rfl rfl rfl ?_
        refine aops_sto tok (ints (ks.set i (m + 1))) rfl rfl rfl rfl rfl (by rw [ints_len]; show i * 1 + 1 ≤ _; omega) (ints_set1 hlt _) rfl rfl ?_
        repeat (first | refine aops_end ?_ | refine aops_a tok rfl (by omega) (by omega) rfl rfl rfl ?_ | refine aops_p tok rfl rfl rfl rfl ?_ | refine acode_seq ?_ | refine acode_region ?_)
        refine acode_ret ?_
        skip
        exact ⟨.int .i64 (m + 1), ⟨by rw [heq], _, fin _ heq.symm, rfl⟩, resOf_tmp rfl⟩

theorem largest_calls {f : Fo} (hf : FoOk f) (M : List Ob) : ACalls Try.prog 14 [foA f] M (fun r M' => (FForm f ∧ r = .int .i64 (big f f.root.toNat) ∨ ¬ FForm f ∧ r = .int .i64 0) ∧ M' = M) := by
  obtain ⟨hf1, hf2⟩ := id hf
  refine acalls_of_code 14 Try.func14 rfl rfl rfl ?_
  repeat (first | refine acode_seq ?_ | refine acode_region ?_)
  refine aops_boxf rfl rfl rfl rfl rfl rfl rfl ?_
  repeat (first | refine aops_end ?_ | refine aops_p tok rfl rfl rfl rfl ?_ | refine acode_seq ?_ | refine acode_region ?_)
  refine aops_call Try.func43 rfl rfl rfl rfl (rfform_calls hf M) rfl rfl ?_
  rintro x M' ⟨hx, hM⟩
  obtain rfl : M = M' := hM.symm
  rcases hx with ⟨h, rfl⟩ | ⟨h, rfl⟩
  · obtain ⟨⟨h0, h1⟩, hw⟩ := id h
    obtain ⟨r, hr⟩ : ∃ r : Nat, f.root = r := ⟨f.root.toNat, by omega⟩
    have hwr : WF f r := hw r (by omega)
    repeat' (first | refine aops_put rfl ?_ | refine aops_end ?_ | refine aops_p tok rfl rfl rfl rfl ?_ | refine acode_if rfl ?_ | refine acode_seq ?_ | refine acode_skip ?_ | refine then_n ?_)
    refine acode_drawP [] 7 [0, 1, 2, 3, 5, 6, 4] [6] mixed (by kernel_rfl) (by kernel_rfl) rfl ?_
    repeat (refine seqO_p tok rfl rfl rfl rfl rfl ?_)
    refine seqO_mk tok f.nodes.length rfl rfl rfl rfl rfl rfl rfl (by show _ * 8 ≤ _; omega) (by omega) (by simp) rfl rfl rfl fun bs => ?_
    refine SeqO.done ?_
    refine aops_M (M' := ⟨some bs, f.nodes.length * 1, ints (List.replicate f.nodes.length 0)⟩ :: M) (by rw [← ints_zeros]; rfl) ?_
    have hdc := large_calls hf bs M hwr (List.replicate f.nodes.length 0) ⟨by simp, fun j x hx => .inl (count_zeros _ _ _ hx)⟩
    rw [← hr] at hdc
    refine aops_call Try.func44 rfl rfl rfl rfl hdc rfl rfl ?_
    rintro x M' ⟨rfl, ks2, hks2, rfl⟩
    repeat (first | refine aops_put rfl ?_ | refine aops_end ?_ | refine aops_p tok rfl rfl rfl rfl ?_)
    refine acode_drop0 (acode_ret ?_)
    skip
    exact ⟨.int .i64 (big f r), ⟨.inl ⟨h, by rw [hr, Int.toNat_natCast]⟩, rfl⟩, resOf_tmp rfl⟩
  · repeat' (first | refine aops_put rfl ?_ | refine aops_end ?_ | refine aops_p tok rfl rfl rfl rfl ?_ | refine acode_it rfl ?_ | refine acode_seq ?_ | refine acode_region ?_)
    refine acode_ret ?_
    repeat (refine ret_then ?_)
    exact ⟨_, ⟨.inr ⟨h, rfl⟩, rfl⟩, resOf_tmp rfl⟩
end Go.Proofs.Ytbnhmioijeagiaa.Ab
/- The reference's All: the walk (what Unf2, Unf4, Unf5 and Unf7 say of the reference alone). No condition. -/
set_option linter.unusedVariables false
set_option linter.unusedSimpArgs false
namespace Go.Proofs.Ytbnhmioijeagiaa.Ab
attribute [local irreducible] thenA inBlockA ACode AOps put IntKind.wrap

def zeroT : List A := [.int .i64 0, .int .i64 0, .nils]
theorem plen_drop {α : Type} {ls : List (List α)} {j : Nat} {l : List α} (h : ls[j]? = some l) : plen (ls.drop j) = l.length * plen (ls.drop (j + 1)) := by
  rw [drop_at h]; rfl
theorem plen_pos {α : Type} : ∀ {ls : List (List α)} {l : List α}, 0 < plen ls → l ∈ ls → 0 < l.length ∧ l.length ≤ plen ls
  | [], _, _, h => by cases h
  | l0 :: ls, l, hp, h => by
    simp only [plen] at hp ⊢
    have h1 : 0 < l0.length := Nat.pos_of_mul_pos_right hp
    have h2 : 0 < plen ls := Nat.pos_of_mul_pos_left hp
    rcases List.mem_cons.1 h with rfl | h
    · exact ⟨h1, Nat.le_mul_of_pos_right _ h2⟩
    · obtain ⟨a, b⟩ := plen_pos h2 h
      exact ⟨a, Nat.le_trans b (Nat.le_mul_of_pos_left _ h1)⟩
theorem flat_drop {α β : Type} {g : α → List β} {l : List α} {q : Nat} {x : α} (h : l[q]? = some x) : (l.drop q).flatMap g = g x ++ (l.drop (q + 1)).flatMap g := by
  rw [drop_at h, List.flatMap_cons]
theorem trees_exact {f : Fo} {k : Nat} (h : WF f k) (hb : ((trL f k).length : Int) < great) : trees f k = (trL f k).length := by
  rw [trees_sat h, sat_small (by omega)]
theorem plen_drop_le {α : Type} : ∀ {ls : List (List α)} (j : Nat), 0 < plen ls → 0 < plen (ls.drop j) ∧ plen (ls.drop j) ≤ plen ls
  | ls, 0, h => by simpa using h
  | [], j + 1, h => by simp [plen]
  | l :: ls, j + 1, h => by
    simp only [plen, List.drop_succ_cons] at h ⊢
    have h1 : 0 < l.length := Nat.pos_of_mul_pos_right h
    have h2 : 0 < plen ls := Nat.pos_of_mul_pos_left h
    obtain ⟨a, b⟩ := plen_drop_le (ls := ls) j h2
    exact ⟨a, Nat.le_trans b (Nat.le_mul_of_pos_left _ h1)⟩
/-- What is left of a number ahead of some digits. -/
def rdig {α : Type} (ls : List (List α)) (n j : Nat) : Nat := n % plen (ls.drop j)
theorem rdig_zero {α : Type} {ls : List (List α)} {n : Nat} (h : n < plen ls) : rdig ls n 0 = n := by unfold rdig; rw [List.drop_zero, Nat.mod_eq_of_lt h]
theorem rdig_step {α : Type} {ls : List (List α)} {n j : Nat} {l : List α} (h : ls[j]? = some l) : rdig ls n (j + 1) = rdig ls n j % plen (ls.drop (j + 1)) := by
  unfold rdig; rw [plen_drop h, Nat.mod_mul_left_mod]
theorem rdig_digit {α : Type} {ls : List (List α)} {n j : Nat} {l : List α} (h : ls[j]? = some l) : rdig ls n j / plen (ls.drop (j + 1)) = n / plen (ls.drop (j + 1)) % l.length := by
  unfold rdig; rw [plen_drop h, Nat.mul_comm, Nat.mod_mul_right_div_self]
theorem altF_step {T : Nat → Int} {ks : List Int} {p : Nat} {k v : Int} (h : ks[p]? = some k) : altF T v (ks.drop p) = altF T (if 0 ≤ k then mulN v (T k.toNat) else v) (ks.drop (p + 1)) := by
  rw [drop_at h]; rfl
/-- The n-th tree of a node is told by the reference. -/
def RNthC (f : Fo) (b bs : Nat) (M : List Ob) (i : Nat) : Prop := ∀ ks, Kp f ks → ∀ n : Nat, n < (trL f i).length →
  ACalls Try.prog 57 [.ref b 0, .int .i64 i, .int .i64 n] (wkC f b bs ks M) (fun r M' => ∃ t, (trL f i)[n]? = some t ∧ r = trA t ∧ ∃ ks', Kp f ks' ∧ M' = wkC f b bs ks' M)

set_option maxHeartbeats 8000000 in
theorem rnth_calls {f : Fo} (hf : FoOk f) (hrg : FoRng f) (hall : ∀ i, i < f.nodes.length → WF f i) (b bs : Nat) {i : Nat} (hwf : WF f i) : Lim f i → ∀ M, ((trL f i).length : Int) < great → RNthC f b bs M i := by
  induction hwf with
  | @mk i hi hkn hkw ih =>
  intro hlim M hb ks0 hks0 n hn
  have hwf : WF f i := .mk hi hkn hkw
  obtain ⟨hf1, hf2⟩ := id hf
  obtain ⟨nd, hnd, hndm, hal⟩ := nodes_at hi
  obtain ⟨hal1, hal2⟩ := hf2 nd hndm
  have hgr : great = 4611686018427387903 := rfl
  have hT := trL_eq hwf
  unfold nodeL at hT
  rw [hal] at hT
  generalize hti : trL f i = ti at *
  have hal0 : 0 < nd.alts.length := by
    apply Nat.pos_of_ne_zero
    intro h0
    rw [List.eq_nil_of_length_eq_zero h0] at hT
    rw [hT] at hn
    simp at hn
  have hmi : ∀ a ∈ nd.alts, a ∈ altsOf f i := fun a ha => by rw [hal]; exact ha
  have hkd : ∀ a ∈ nd.alts, ∀ k : Nat, (k : Int) ∈ a.kids → Kid f i k := fun a ha k hk => ⟨a, hmi a ha, hk⟩
  have hce : ∀ a ∈ nd.alts, (altL (trL f) a).length ≤ ti.length → altF (trees f) 1 a.kids = (altL (trL f) a).length := fun a ha h => by
    rw [altF_len (g := trL f) fun k hk => trees_sat (hkw k (hkd a ha k hk)), sat_small (by omega)]
  have hra : ∀ a ∈ nd.alts, ∀ (M : List Ob) {ks : List Int}, Kp f ks → ACalls Try.prog 91 [.ref b 0, .agg (alC a)] (wkC f b bs ks M) (fun r M' => r = .int .i64 (altF (trees f) 1 a.kids) ∧ ∃ ks', Kp f ks' ∧ M' = wkC f b bs ks' M) := fun a ha M ks hks =>
    ralt_calls (by have := hal2 a ha; omega) (fun k hk => ⟨hkw k (hkd a ha k hk), rnode_calls hf b bs M (hkw k (hkd a ha k hk))⟩) hks
  refine acalls_of_code 130 Try.func57 rfl rfl rfl ?_
  repeat (first | refine acode_seq ?_ | refine acode_region ?_)
  refine aops_alloc tok rfl rfl rfl rfl rfl rfl fun br => ?_
  skip
  refine aops_end ?_
  refine acode_perm (wkC f b bs ks0 (⟨some br, 3, zeroT⟩ :: M)) ?_ ?_
  · exact (List.perm_middle (l₁ := [_, _])).symm
  repeat (first | refine aops_p tok rfl rfl rfl rfl ?_ | refine aops_ld tok 0 rfl rfl rfl rfl rfl rfl rfl rfl ?_ | refine acode_seq ?_ | refine acode_region ?_)
  refine aops_ix tok (ndC nd) rfl rfl rfl rfl (by omega) (by omega) (by simp [ndC]) (nd_at hnd) rfl rfl rfl ?_
  repeat (refine aops_p tok rfl rfl rfl rfl ?_)
  refine aops_end ?_
  refine acode_seq ?_
  refine acode_region ?_
  repeat (refine aops_p tok rfl rfl rfl rfl ?_)
  refine aops_end ?_
  refine acode_seq ?_
  refine acode_joinI (ι := Nat × Nat × List Int) (fun q => [(0, .ref b 0), (2, .int .i64 q.2.1), (6, .ref br 0), (7, .psl nd.alts.length (encs alC nd.alts)), (8, .int .i64 q.1)]) (fun q => wkC f b bs q.2.2 (⟨some br, 3, zeroT⟩ :: M)) (fun q => Kp f q.2.2 ∧ ∃ a, nd.alts[q.1]? = some a ∧ (altL (trL f) a).length ≤ ti.length ∧ q.2.1 < (altL (trL f) a).length ∧ ti[n]? = (altL (trL f) a)[q.2.1]?) ?_ ?_
  · refine acode_block ?_
    refine acode_loopS (ι := Nat × Nat × List Int) (fun q => [(0, .ref b 0), (2, .int .i64 q.2.1), (6, .ref br 0), (7, .psl nd.alts.length (encs alC nd.alts)), (8, .int .i64 q.1)]) (fun q => wkC f b bs q.2.2 (⟨some br, 3, zeroT⟩ :: M)) (fun q => nd.alts.length - q.1) (fun q => q.1 < nd.alts.length ∧ Kp f q.2.2 ∧ ti[n]? = ((nd.alts.drop q.1).flatMap (altL (trL f)))[q.2.1]? ∧ q.2.1 < ((nd.alts.drop q.1).flatMap (altL (trL f))).length ∧ ((nd.alts.drop q.1).flatMap (altL (trL f))).length ≤ ti.length) (0, n, ks0) ⟨hal0, hks0, by rw [List.drop_zero, ← hT], by rw [List.drop_zero, ← hT]; exact hn, by rw [List.drop_zero, ← hT]; exact Nat.le_refl _⟩ ⟨rfl, rfl, rfl, rfl, rfl, trivial⟩ rfl ?_
    rintro ⟨q, m, ks⟩ ⟨hql, hks, hat, hm, hmt⟩
    simp only at hql hks hat hm hmt ⊢
    obtain ⟨a, ha⟩ : ∃ a, nd.alts[q]? = some a := ⟨nd.alts[q], List.getElem?_eq_getElem hql⟩
    have ham := List.mem_of_getElem? ha
    rw [flat_drop ha] at hat hm hmt
    rw [List.length_append] at hm hmt
    have hce' := hce a ham (by omega)
    repeat' (first | refine aops_end ?_ | refine aops_o rfl rfl rfl ?_ | refine aops_a tok rfl (by omega) (by omega) rfl rfl rfl ?_ | (refine aops_pd tok rfl rfl rfl rfl ?_ ?_ <;> intro e_) | refine aops_p tok rfl rfl rfl rfl ?_ | refine acode_if rfl ?_ | refine acode_seq ?_ | refine acode_region ?_)
    · refine aops_ix tok (alC a) rfl rfl rfl rfl (by omega) (by omega) (by simp [alC]) (al_at ha) rfl rfl rfl ?_
      repeat (refine aops_p tok rfl rfl rfl rfl ?_)
      refine aops_call Try.func91 rfl rfl rfl rfl (hra a ham _ hks) rfl rfl ?_
      rintro x M' ⟨rfl, ks1, hks1, rfl⟩
      rw [hce']
      repeat' (first | refine aops_put rfl ?_ | refine aops_end ?_ | (refine aops_pd tok rfl rfl rfl rfl ?_ ?_ <;> intro e_) | refine aops_p tok rfl rfl rfl rfl ?_ | refine acode_it rfl ?_ | refine acode_if rfl ?_ | refine acode_seq ?_ | refine acode_region ?_ | refine acode_block ?_ | refine acode_skip ?_ | refine then_n ?_)
      · refine aops_ix tok (alC a) rfl rfl rfl rfl (by omega) (by omega) (by simp [alC]) (al_at ha) rfl rfl rfl ?_
        repeat (refine aops_p tok rfl rfl rfl rfl ?_)
        refine aops_call Try.func91 rfl rfl rfl rfl (hra a ham _ hks1) rfl rfl ?_
        rintro x M' ⟨rfl, ks2, hks2, rfl⟩
        rw [hce']
        rw [List.getElem?_append_right (by omega)] at hat
        have e3 : ((m - (altL (trL f) a).length : Nat) : Int) = (m : Int) - (altL (trL f) a).length := by omega
        repeat (first | refine aops_put rfl ?_ | refine aops_end ?_ | refine aops_endb ?_ | refine aops_a tok rfl (by omega) (by omega) rfl rfl rfl ?_ | refine aops_p tok rfl rfl rfl rfl ?_ | refine acode_region ?_ | refine then_n ?_)
        exact ⟨(q + 1, m - (altL (trL f) a).length, ks2), ⟨by simp only; omega, hks2, hat, by simp only; omega, by simp only; omega⟩, by simp only; omega, ⟨rfl, by rw [e3]; rfl, rfl, rfl, rfl, trivial⟩, rfl⟩
      · refine acode_exit ?_
        repeat (first | refine exit_then ?_ | refine exit_here ?_ | refine then_n ?_)
        have hma : m < (altL (trL f) a).length := by omega
        rw [List.getElem?_append_left hma] at hat
        exact ⟨(q, m, ks1), ⟨hks1, a, ha, by omega, hma, hat⟩, ⟨rfl, rfl, rfl, rfl, rfl, trivial⟩, rfl⟩
    · refine acode_exit ?_
      repeat (first | refine exit_then ?_ | refine exit_here ?_ | refine then_n ?_)
      have hd : nd.alts.drop (q + 1) = [] := List.drop_eq_nil_of_le (by omega)
      rw [hd] at hat hm hmt
      simp only [List.flatMap_nil, List.append_nil, List.length_nil, Nat.add_zero] at hat hm hmt
      exact ⟨(q, m, ks), ⟨hks, a, ha, hmt, hm, hat⟩, ⟨rfl, rfl, rfl, rfl, rfl, trivial⟩, rfl⟩
  · rintro ⟨q, m, ks⟩ ⟨hks, a, ha, hmt, hm, hat⟩
    simp only at hks ha hm hat ⊢
    have hql := (List.getElem?_eq_some_iff.1 ha).1
    have ham := List.mem_of_getElem? ha
    have hkl := hal2 a ham
    have hkl2 := hlim.len (hmi a ham)
    have hrga := hrg nd hndm a ham
    have hmp := hm
    rw [altL_len] at hmp
    have hpb : (plen (kidsL (trL f) a.kids) : Int) < great := by rw [← altL_len]; omega
    obtain ⟨out, ho1, ho2, ho3⟩ := prodL_at (kidsL (trL f) a.kids) m hmp
    have hres : (altL (trL f) a)[m]? = some (.mk a.rule 0 out) := by simp [altL, ho1]
    have hLl : (kidsL (trL f) a.kids).length = a.kids.length := by simp [kidsL]
    have hpos : 0 < plen (kidsL (trL f) a.kids) := by omega
    have hLj : ∀ (j : Nat) (k : Int), a.kids[j]? = some k → (kidsL (trL f) a.kids)[j]? = some (if 0 ≤ k then trL f k.toNat else [leafT k]) := fun j k h => by simp [kidsL, h]
    have hmem : ∀ (j : Nat) l, (kidsL (trL f) a.kids)[j]? = some l → 0 < l.length ∧ l.length ≤ plen (kidsL (trL f) a.kids) := fun j l h => plen_pos hpos (List.mem_of_getElem? h)
    have hrest : ∀ j, altF (trees f) 1 (a.kids.drop j) = (plen ((kidsL (trL f) a.kids).drop j) : Nat) := fun j => by
      have h1 := altF_sat (g := trL f) (T := trees f) (a.kids.drop j) 1 (fun k hk => trees_sat (hkw k (hkd a ham k (List.mem_of_mem_drop hk))))
      have h2 := (plen_drop_le j hpos).2
      rw [show sat ((1 : Nat) : Int) = 1 from by decide, Nat.one_mul] at h1
      rw [h1, show kidsL (trL f) (a.kids.drop j) = (kidsL (trL f) a.kids).drop j from by simp [kidsL, List.map_drop], sat_small (by omega)]
    generalize kidsL (trL f) a.kids = L at *
    have hol : out.length = a.kids.length := by omega
    repeat (first | refine aops_p tok rfl rfl rfl rfl ?_ | refine acode_seq ?_ | refine acode_region ?_)
    refine aops_ix tok (alC a) rfl rfl rfl rfl (by omega) (by omega) (by simp [alC]) (al_at ha) rfl rfl rfl ?_
    repeat (refine aops_p tok rfl rfl rfl rfl ?_)
    refine aops_alloc tok rfl rfl rfl rfl rfl rfl fun bt => ?_
    refine aops_stn tok rfl rfl rfl rfl rfl rfl rfl rfl rfl ?_
    refine aops_adoptF 2 rfl rfl ?_
    refine aops_end ?_
    refine acode_perm (wkC f b bs ks (⟨some bt, 3, [.int .i64 a.rule, .int .i64 0, .own none 0 0]⟩ :: ⟨none, 0, []⟩ :: ⟨some br, 3, zeroT⟩ :: M)) ?_ ?_
    · exact (List.perm_append_comm (l₁ := [_, _]) (l₂ := [_, _])).append_right _
    repeat (first | refine aops_end ?_ | refine aops_p tok rfl rfl rfl rfl ?_ | refine acode_seq ?_ | refine acode_region ?_ | refine acode_block ?_)
    refine acode_loopS (ι := Nat × Option Nat × Nat × List Int) (fun p => [(0, .ref b 0), (2, .int .i64 (rdig L m p.1 : Nat)), (6, .ref br 0), (7, .psl nd.alts.length (encs alC nd.alts)), (8, .int .i64 q), (9, .ref bt 0), (10, .int .i64 p.1)]) (fun p => wkC f b bs p.2.2.2 (⟨some bt, 3, [.int .i64 a.rule, .int .i64 0, .own p.2.1 p.1 p.2.2.1]⟩ :: ⟨p.2.1, p.2.2.1 * 3, encs trC (out.take p.1)⟩ :: ⟨some br, 3, zeroT⟩ :: M)) (fun p => a.kids.length - p.1) (fun p => p.1 ≤ a.kids.length ∧ Kp f p.2.2.2 ∧ (p.1 = 0 ∧ p.2.1 = none ∧ p.2.2.1 = 0 ∨ ∃ c, p.2.1 = some c)) (0, none, 0, ks) ⟨Nat.zero_le _, hks, .inl ⟨rfl, rfl, rfl⟩⟩ ⟨rfl, by rw [rdig_zero hmp]; rfl, rfl, rfl, rfl, rfl, rfl, trivial⟩ rfl ?_
    clear hks ks
    rintro ⟨j, ob, cap, ks⟩ ⟨hj, hks, hob⟩
    simp only at hj hks hob ⊢
    repeat (first | refine aops_p tok rfl rfl rfl rfl ?_ | refine acode_seq ?_ | refine acode_region ?_)
    refine aops_ix tok (alC a) rfl rfl rfl rfl (by omega) (by omega) (by simp [alC]) (al_at ha) rfl rfl rfl ?_
    repeat (first | refine aops_end ?_ | refine aops_p tok rfl rfl rfl rfl ?_)
    refine acode_id rfl (fun e => ?_) (fun e => ?_)
    · have hjl : j < a.kids.length := by omega
      obtain ⟨k, hk⟩ : ∃ k, a.kids[j]? = some k := ⟨a.kids[j], List.getElem?_eq_getElem hjl⟩
      have hkm := List.mem_of_getElem? hk
      have hkr := hrga k hkm
      obtain ⟨hkr0, hkr1⟩ := id hkr
      have hLi := hLj j k hk
      obtain ⟨t, ht1, ht2⟩ := ho3 j _ hLi
      have hrs := rdig_step (n := m) hLi
      have hrd := rdig_digit (n := m) hLi
      have htk : out.take (j + 1) = out.take j ++ [t] := by rw [List.take_add_one, ht1]; rfl
      have hle : rdig L m j ≤ m := Nat.mod_le _ _
      obtain ⟨hp0, hp1⟩ := plen_drop_le (j + 1) hpos
      repeat (first | refine aops_p tok rfl rfl rfl rfl ?_ | refine acode_seq ?_ | refine acode_region ?_ | refine acode_block ?_ | refine acode_skip ?_ | refine then_n ?_)
      refine aops_ix tok (alC a) rfl rfl rfl rfl (by omega) (by omega) (by simp [alC]) (al_at ha) rfl rfl rfl ?_
      repeat (refine aops_p tok rfl rfl rfl rfl ?_)
      refine aops_ix tok [A.int .i64 k] rfl rfl rfl rfl (by omega) (by omega) (by simp) (ints_at (j := j) (by simpa using hk)) rfl rfl rfl ?_
      repeat' (first | refine aops_end ?_ | refine aops_a tok rfl (by omega) (by omega) rfl rfl rfl ?_ | (refine aops_pd tok rfl rfl rfl rfl ?_ ?_ <;> intro e_) | refine aops_p tok rfl rfl rfl rfl ?_ | refine acode_it rfl ?_ | refine acode_if rfl ?_ | refine acode_seq ?_ | refine acode_region ?_ | refine acode_block ?_ | refine acode_skip ?_ | refine then_n ?_)
      · -- a token
        rw [if_neg (by omega)] at ht2 hLi
        have htl : t = leafT k := by simpa [Nat.mod_one] using ht2.symm
        subst htl
        have hrs' : rdig L m (j + 1) = rdig L m j := by unfold rdig; rw [plen_drop hLi]; simp
        refine aops_ld tok 2 rfl rfl rfl rfl rfl rfl rfl rfl ?_
        repeat (first | refine aops_a tok rfl (by omega) (by omega) rfl rfl rfl ?_ | refine aops_p tok rfl rfl rfl rfl ?_)
        refine aops_softt 78 (y := trA (leafT k)) rfl ?_
        refine aops_litn tok rfl rfl rfl rfl rfl rfl rfl ?_
        refine aops_append tok 3 (m := 1) (ds := trC (leafT k)) rfl rfl rfl (.inl (by rw [trC_eq]; rfl)) rfl rfl (by rw [encs_len trC_len, List.length_take, Nat.min_eq_left (by omega)]) (by rw [trC_len]; rfl) (by rw [trC_eq]; rfl) rfl (by show _ * 40 ≤ _; omega) (by omega) rfl rfl fun ob' cap' => ?_
        refine aops_put rfl ?_
        refine aops_somed 80 rfl (by omega) fun c hc => ?_
        subst hc
        repeat (refine aops_p tok rfl rfl rfl rfl ?_)
        refine aops_stk tok 2 [.int .i64 a.rule, .int .i64 0, .own (some c) (j + 1) cap'] _ rfl rfl rfl rfl rfl rfl (show 2 + 1 ≤ 3 from by decide) rfl rfl rfl rfl ?_
        refine aops_end ?_
        refine acode_exit ?_
        repeat (first | refine exit_then ?_ | refine exit_here ?_ | refine then_n ?_)
        repeat (first | refine aops_end ?_ | refine aops_a tok rfl (by omega) (by omega) rfl rfl rfl ?_ | refine aops_p tok rfl rfl rfl rfl ?_ | refine acode_region ?_)
        refine ⟨(j + 1, some c, cap', ks), ⟨by simp only; omega, hks, .inr ⟨c, rfl⟩⟩, by simp only; omega, ⟨rfl, by rw [hrs']; rfl, rfl, rfl, rfl, rfl, rfl, trivial⟩, ?_⟩
        simp only [htk, encs_app]
        simp [encs]
      · -- a node
        obtain ⟨k', rfl⟩ : ∃ k' : Nat, k = k' := ⟨k.toNat, by omega⟩
        rw [if_pos (by omega), Int.toNat_natCast] at ht2 hLi
        rw [if_pos (by omega), Int.toNat_natCast] at hrd
        have hkk := hkd a ham k' hkm
        have hwk := hkw k' hkk
        have hkb : ((trL f k').length : Int) < great := by have := hmem j _ hLi; omega
        have hrc := hrest (j + 1)
        skip
        refine acode_loopS (ι := Nat × Int × List Int) (fun p => [(0, .ref b 0), (2, .int .i64 (rdig L m j : Nat)), (6, .ref br 0), (7, .psl nd.alts.length (encs alC nd.alts)), (8, .int .i64 q), (9, .ref bt 0), (10, .int .i64 j), (11, .int .i64 k'), (12, .int .i64 p.2.1), (13, .int .i64 p.1)]) (fun p => wkC f b bs p.2.2 (⟨some bt, 3, [.int .i64 a.rule, .int .i64 0, .own ob j cap]⟩ :: ⟨ob, cap * 3, encs trC (out.take j)⟩ :: ⟨some br, 3, zeroT⟩ :: M)) (fun p => a.kids.length - p.1) (fun p => p.1 ≤ a.kids.length ∧ isN p.2.1 ∧ Kp f p.2.2 ∧ altF (trees f) p.2.1 (a.kids.drop p.1) = (plen (L.drop (j + 1)) : Nat)) (j + 1, 1, ks) ⟨by simp only; omega, ⟨show (0 : Int) ≤ 1 from by decide, show (1 : Int) ≤ great from by decide⟩, hks, hrc⟩ ⟨rfl, rfl, rfl, rfl, rfl, rfl, rfl, rfl, rfl, rfl, trivial⟩ rfl ?_
        clear hks ks
        rintro ⟨p, v, ks⟩ ⟨hp, hv, hks, hgo⟩
        simp only at hp hv hks hgo ⊢
        repeat (first | refine aops_p tok rfl rfl rfl rfl ?_ | refine acode_seq ?_ | refine acode_region ?_)
        refine aops_ix tok (alC a) rfl rfl rfl rfl (by omega) (by omega) (by simp [alC]) (al_at ha) rfl rfl rfl ?_
        repeat (first | refine aops_end ?_ | refine aops_p tok rfl rfl rfl rfl ?_)
        refine acode_id rfl (fun e2 => ?_) (fun e2 => ?_)
        · have hpl : p < a.kids.length := by omega
          obtain ⟨k2, hk2⟩ : ∃ k, a.kids[p]? = some k := ⟨a.kids[p], List.getElem?_eq_getElem hpl⟩
          have hkm2 := List.mem_of_getElem? hk2
          rw [altF_step hk2] at hgo
          repeat (first | refine aops_p tok rfl rfl rfl rfl ?_ | refine acode_seq ?_ | refine acode_region ?_ | refine acode_block ?_ | refine acode_skip ?_ | refine then_n ?_)
          refine aops_ix tok (alC a) rfl rfl rfl rfl (by omega) (by omega) (by simp [alC]) (al_at ha) rfl rfl rfl ?_
          repeat (refine aops_p tok rfl rfl rfl rfl ?_)
          refine aops_ix tok [A.int .i64 k2] rfl rfl rfl rfl (by omega) (by omega) (by simp) (ints_at (j := p) (by simpa using hk2)) rfl rfl rfl ?_
          repeat' (first | refine aops_end ?_ | refine aops_a tok rfl (by omega) (by omega) rfl rfl rfl ?_ | (refine aops_pd tok rfl rfl rfl rfl ?_ ?_ <;> intro e_) | refine aops_p tok rfl rfl rfl rfl ?_ | refine acode_it rfl ?_ | refine acode_if rfl ?_ | refine acode_region ?_ | refine acode_skip ?_ | refine then_n ?_ | refine block_n ?_)
          · obtain ⟨k3, rfl⟩ : ∃ k3 : Nat, k2 = k3 := ⟨k2.toNat, by omega⟩
            rw [if_pos (by omega), Int.toNat_natCast] at hgo
            have hwk3 := hkw k3 (hkd a ham k3 hkm2)
            refine aops_ix tok (alC a) rfl rfl rfl rfl (by omega) (by omega) (by simp [alC]) (al_at ha) rfl rfl rfl ?_
            repeat (refine aops_p tok rfl rfl rfl rfl ?_)
            refine aops_ix tok [A.int .i64 k3] rfl rfl rfl rfl (by omega) (by omega) (by simp) (ints_at (j := p) (by simpa using hk2)) rfl rfl rfl ?_
            repeat (refine aops_p tok rfl rfl rfl rfl ?_)
            refine aops_call Try.func56 rfl rfl rfl rfl (rnode_calls hf b bs _ hwk3 ks hks) rfl rfl ?_
            rintro x M' ⟨rfl, ks', hks', rfl⟩
            repeat (refine aops_put rfl ?_)
            refine aops_callx Try.func92 rfl rfl rfl rfl (rtimes_calls hv (trees_is hwk3) _) rfl rfl rfl ?_
            repeat (first | refine aops_end ?_ | refine aops_endb ?_ | refine aops_a tok rfl (by omega) (by omega) rfl rfl rfl ?_ | refine aops_p tok rfl rfl rfl rfl ?_ | refine acode_region ?_ | refine then_n ?_)
            exact ⟨(p + 1, mulN v (trees f k3), ks'), ⟨by simp only; omega, mulN_is hv (trees_is hwk3), hks', hgo⟩, by simp only; omega, ⟨rfl, rfl, rfl, rfl, rfl, rfl, rfl, rfl, rfl, rfl, trivial⟩, rfl⟩
          · rw [if_neg (by omega)] at hgo
            exact ⟨(p + 1, v, ks), ⟨by simp only; omega, hv, hks, hgo⟩, by simp only; omega, ⟨rfl, rfl, rfl, rfl, rfl, rfl, rfl, rfl, rfl, rfl, trivial⟩, rfl⟩
        · have hge : p = a.kids.length := by omega
          subst hge
          rw [List.drop_length] at hgo
          have hgo : v = (plen (L.drop (j + 1)) : Nat) := hgo
          subst hgo
          refine acode_exit ?_
          repeat (first | refine exit_then ?_ | refine exit_here ?_ | refine then_n ?_)
          obtain ⟨dk, hdk1, hdk2⟩ := decP (Kp f) hks
          have hnd : rdig L m j / plen (L.drop (j + 1)) < (trL f k').length := by rw [hrd]; exact Nat.mod_lt _ (hmem j _ hLi).1
          refine acode_seq ?_
          refine acode_drawP [⟨some bt, 3, [.int .i64 a.rule, .int .i64 0, .own ob j cap]⟩] 11 [0, 1, 2, 3, 4, 5, 6, 7, 8, 9, 10] [7, 9] mixed (by kernel_rfl) (by kernel_rfl) rfl ?_
          repeat (first | refine seqO_p tok rfl rfl rfl rfl rfl ?_ | refine seqO_ld tok 0 rfl rfl rfl rfl rfl (by simp) rfl rfl rfl rfl ?_)
          refine seqO_quo rfl rfl rfl rfl (by omega) (by omega) (by omega) rfl rfl rfl ?_
          rw [← Int.natCast_ediv]
          refine seqO_callw (fun _ => trA t) (fun z => wkC f b bs (dk z) (⟨some bt, 3, [.int .i64 a.rule, .int .i64 0, .own ob j cap]⟩ :: ⟨ob, cap * 3, encs trC (out.take j)⟩ :: ⟨some br, 3, zeroT⟩ :: M)) rfl Try.func57 rfl rfl rfl rfl ((ih k' hkk (hlim.kid hkk) _ hkb ks hks _ hnd).mono ?_) (by simp) rfl rfl rfl fun z => ?_
          · rintro r M' ⟨t', h1, rfl, ks', hks', rfl⟩
            rw [hrd, ht2] at h1
            cases h1
            obtain ⟨z, hz⟩ := hdk2 ks' hks'
            exact ⟨z, rfl, by rw [hz]⟩
          refine seqO_lit tok rfl rfl rfl rfl rfl rfl rfl rfl rfl ?_
          refine seqO_app tok 3 (m := 1) (ds := trC t) rfl rfl rfl rfl (.inl (by rw [trC_eq]; rfl)) rfl rfl (by rw [encs_len trC_len, List.length_take, Nat.min_eq_left (by omega)]) (by rw [trC_len]; rfl) (by rw [trC_eq]; rfl) rfl (by show _ * 40 ≤ _; omega) (by omega) (by intro y o ho; simp at ho ⊢; simp [ho]) rfl rfl rfl fun ob' cap' => ?_
          repeat (refine seqO_p tok rfl rfl rfl rfl rfl ?_)
          refine SeqO.done ?_
          refine aops_somed 124 rfl (by omega) fun c hc => ?_
          subst hc
          refine aops_stk tok 2 [.int .i64 a.rule, .int .i64 0, .own (some c) (j + 1) cap'] _ rfl rfl rfl rfl rfl rfl (show 2 + 1 ≤ 3 from by decide) rfl rfl rfl rfl ?_
          repeat (first | refine aops_end ?_ | refine aops_p tok rfl rfl rfl rfl ?_ | refine acode_region ?_)
          refine aops_rem rfl rfl rfl (by omega) (by omega) (by omega) rfl rfl rfl ?_
          rw [← Int.natCast_emod]
          repeat (first | refine aops_end ?_ | refine aops_endb ?_ | refine aops_a tok rfl (by omega) (by omega) rfl rfl rfl ?_ | refine aops_p tok rfl rfl rfl rfl ?_ | refine acode_region ?_ | refine then_n ?_)
          refine ⟨(j + 1, some c, cap', dk z), ⟨by simp only; omega, hdk1 z, .inr ⟨c, rfl⟩⟩, by simp only; omega, ⟨rfl, by rw [hrs]; rfl, rfl, rfl, rfl, rfl, rfl, trivial⟩, ?_⟩
          simp only [htk, encs_app]
          simp [encs]
    · have hge : j = a.kids.length := by omega
      subst hge
      have htk : out.take a.kids.length = out := List.take_of_length_le (by omega)
      rw [htk]
      refine acode_exit ?_
      repeat (first | refine exit_then ?_ | refine exit_here ?_ | refine then_n ?_)
      repeat (first | refine acode_seq ?_ | refine acode_region ?_)
      refine aops_ld tok 2 rfl rfl rfl rfl rfl rfl rfl rfl ?_
      refine aops_stk tok 4 [.int .i64 a.rule, .int .i64 0, .own ob a.kids.length cap] _ rfl rfl rfl rfl rfl rfl (show 0 + 3 ≤ 3 from by decide) rfl rfl rfl rfl ?_
      refine aops_end ?_
      refine acode_drop 2 ?_
      refine acode_perm ([⟨ob, cap * 3, encs trC out⟩, ⟨some br, 3, [.int .i64 a.rule, .int .i64 0, .own ob a.kids.length cap]⟩] ++ wkC f b bs ks M) ?_ ?_
      · exact (List.perm_append_comm (l₁ := [_, _]) (l₂ := [_, _])).append_right _
      refine acode_freezeV [⟨ob, cap * 3, encs trC out⟩, ⟨some br, 3, [.int .i64 a.rule, .int .i64 0, .own ob a.kids.length cap]⟩] [(6, .pp [.int .i64 a.rule, .int .i64 0, .psl out.length (encs trC out)])] ⟨.ref (.tail _ (.head _)) (.cons (.refl _) (.cons (.refl _) (.cons ?_ .nil))), trivial⟩ ?_
      · rcases hob with ⟨h0, rfl, rfl⟩ | ⟨c, rfl⟩
        · have : out = [] := List.eq_nil_of_length_eq_zero (by omega)
          rw [h0, this]; exact .none
        · rw [← hol]; exact .own (.head _) rfl (by rw [encs_len trC_len]) (by decide) (VwL.rfl' _)
      refine acode_ret ?_
      skip
      exact ⟨_, ⟨_, hat.trans hres, rfl, ks, hks, rfl⟩, resOf_pp tok rfl rfl rfl⟩
/-- How many trees are listed at most. -/
def cutN (n : Int) : Nat := (max 0 (min n 10000)).toNat
theorem cutN_le (n : Int) : cutN n ≤ 10000 := by unfold cutN; omega


def cut (n low high : Int) : Int := if n < low then low else if n > high then high else n
theorem cut_calls {n low high : Int} (M : List Ob) : ACalls Try.prog 36 [.int .i64 n, .int .i64 low, .int .i64 high] M (fun r M' => r = .int .i64 (cut n low high) ∧ M' = M) := by
  refine acalls_of_code 18 Try.func36 rfl rfl rfl ?_
  repeat (first | refine aops_end ?_ | refine aops_p tok rfl rfl rfl rfl ?_ | refine acode_seq ?_ | refine acode_region ?_ | refine acode_block ?_)
  refine acode_cond rfl (fun e1 => ?_) (fun e1 => ?_)
  · repeat (first | refine aops_end ?_ | refine aops_p tok rfl rfl rfl rfl ?_ | refine acode_seq ?_ | refine acode_region ?_)
    refine acode_ret ?_
    repeat (first | refine ret_then ?_ | refine ret_block ?_)
    exact ⟨_, ⟨rfl, rfl⟩, resOf_tmp (by unfold cut; rw [if_pos (by simpa using e1)]; rfl)⟩
  · repeat (first | refine aops_end ?_ | refine aops_p tok rfl rfl rfl rfl ?_ | refine acode_seq ?_ | refine acode_region ?_)
    refine acode_cond rfl (fun e2 => ?_) (fun e2 => ?_)
    · repeat (first | refine aops_end ?_ | refine aops_p tok rfl rfl rfl rfl ?_ | refine acode_seq ?_ | refine acode_region ?_)
      refine acode_ret ?_
      repeat (first | refine ret_then ?_ | refine ret_block ?_)
      exact ⟨_, ⟨rfl, rfl⟩, resOf_tmp (by unfold cut; rw [if_neg (by simpa using e1), if_pos (by simpa using e2)]; rfl)⟩
    · repeat (first | refine aops_end ?_ | refine aops_p tok rfl rfl rfl rfl ?_ | refine acode_seq ?_ | refine acode_region ?_ | refine acode_skip ?_ | refine then_n ?_ | refine block_n ?_)
      refine acode_ret ?_
      skip
      exact ⟨_, ⟨rfl, rfl⟩, resOf_tmp (by unfold cut; rw [if_neg (by simpa using e1), if_neg (by simpa using e2)]; rfl)⟩
theorem cut_cutN (n : Int) : cut n 0 10000 = ((cutN n : Nat) : Int) := by unfold cut cutN; split <;> (try split) <;> omega
theorem kp_init (f : Fo) : Kp f (List.replicate f.nodes.length (-1)) := ⟨by simp, fun j x hx => by
  rw [List.getElem?_replicate] at hx
  split at hx
  · exact .inl (Option.some.inj hx).symm
  · cases hx⟩

set_option maxHeartbeats 4000000 in
theorem rall_calls {f : Fo} (hf : FoOk f) (hrg : FoRng f) (hlim : FForm f → Lim f f.root.toNat) (hb : FForm f → ((trL f f.root.toNat).length : Int) < great) (n : Int) (M : List Ob) :
    ACalls Try.prog 22 [foA f, .int .i64 n] M (fun r M' => (FForm f ∧ r = .tup [.psl ((trL f f.root.toNat).take (cutN n)).length (encs trC ((trL f f.root.toNat).take (cutN n))), .bool (decide ((trL f f.root.toNat).length ≤ cutN n))] ∨ ¬ FForm f ∧ r = .tup [.nils, .bool false]) ∧ M' = M) := by
  obtain ⟨hf1, hf2⟩ := id hf
  have hgr : great = 4611686018427387903 := rfl
  refine acalls_of_code 44 Try.func22 rfl rfl rfl ?_
  repeat (first | refine acode_seq ?_ | refine acode_region ?_)
  refine aops_boxf rfl rfl rfl rfl rfl rfl rfl ?_
  repeat (first | refine aops_end ?_ | refine aops_p tok rfl rfl rfl rfl ?_ | refine acode_seq ?_ | refine acode_region ?_)
  refine aops_callx Try.func36 rfl rfl rfl rfl (cut_calls _) rfl rfl rfl ?_
  rw [cut_cutN]
  have hcl := cutN_le n
  generalize cutN n = c at *
  repeat (first | refine aops_end ?_ | refine aops_p tok rfl rfl rfl rfl ?_ | refine acode_seq ?_ | refine acode_region ?_)
  refine aops_call Try.func21 rfl rfl rfl rfl (rtrees_calls hf M) rfl rfl ?_
  rintro x M' ⟨hx, hM⟩
  obtain rfl : M = M' := hM.symm
  rcases hx with ⟨h, rfl⟩ | ⟨h, rfl⟩
  · obtain ⟨⟨h0, h1⟩, hw⟩ := id h
    have hrl : f.root.toNat < f.nodes.length := by omega
    have hb := hb h
    have hte := trees_exact (hw _ hrl) hb
    rw [hte]
    rw [show decide (((trL f f.root.toNat).length : Int) < great) = true from decide_eq_true hb]
    have hrt : (f.root.toNat : Int) = f.root := by omega
    have hnc := fun b bs M => rnth_calls hf hrg hw b bs (hw _ hrl) (hlim h) M hb
    unfold RNthC at hnc
    rw [hrt] at hnc
    generalize hts : trL f f.root.toNat = ts at *
    repeat' (first | refine aops_put rfl ?_ | refine aops_end ?_ | refine aops_p tok rfl rfl rfl rfl ?_ | refine acode_if rfl ?_ | refine acode_seq ?_ | refine acode_region ?_ | refine acode_skip ?_ | refine then_n ?_)
    refine aops_call Try.func55 rfl rfl rfl rfl (counts_calls hf M) rfl rfl ?_
    rintro x M' ⟨z, rfl, rfl⟩
    generalize z.headD 0 = b
    generalize z.getD 1 0 = bs
    have hks := kp_init f
    generalize List.replicate f.nodes.length (-1 : Int) = ks at *
    refine aops_put rfl ?_
    repeat (refine aops_p tok rfl rfl rfl rfl ?_)
    refine aops_end ?_
    refine acode_seq ?_
    refine acode_region ?_
    repeat (refine aops_p tok rfl rfl rfl rfl ?_)
    refine aops_adopt 9 3 rfl ?_
    refine aops_end ?_
    refine acode_perm (wkC f b bs ks (⟨none, 0 * 3, []⟩ :: M)) perm3.symm ?_
    refine acode_seq ?_
    refine acode_seq ?_
    refine acode_region ?_
    repeat (refine aops_p tok rfl rfl rfl rfl ?_)
    refine aops_end ?_
    refine acode_joinI (ι := Option Nat × Nat × List Int) (fun q => [(1, .int .i64 (c : Nat)), (6, .int .i64 (ts.length : Nat)), (9, .own q.1 (ts.take c).length q.2.1)]) (fun q => wkC f b bs q.2.2 (⟨q.1, q.2.1 * 3, encs trC (ts.take c)⟩ :: M)) (fun _ => True) ?_ ?_
    · refine acode_block ?_
      refine acode_loopS (ι := Nat × Option Nat × Nat × List Int) (fun q => [(1, .int .i64 (c : Nat)), (2, .pp (foC f)), (6, .int .i64 (ts.length : Nat)), (8, .ref b 0), (9, .own q.2.1 q.1 q.2.2.1), (10, .int .i64 q.1)]) (fun q => wkC f b bs q.2.2.2 (⟨q.2.1, q.2.2.1 * 3, encs trC (ts.take q.1)⟩ :: M)) (fun q => min c ts.length - q.1) (fun q => q.1 ≤ min c ts.length ∧ Kp f q.2.2.2) (0, none, 0, ks) ⟨Nat.zero_le _, hks⟩ ⟨rfl, rfl, rfl, rfl, rfl, rfl, trivial⟩ rfl ?_
      clear hks ks
      rintro ⟨q, ob, cap, ks⟩ ⟨hq, hks⟩
      simp only at hq hks ⊢
      have fin : q = min c ts.length → ts.take q = ts.take c ∧ q = (ts.take c).length := fun h => by
        subst h
        exact ⟨by rw [List.take_eq_take_iff]; omega, by rw [List.length_take]⟩
      repeat' (first | refine aops_end ?_ | refine aops_o rfl rfl rfl ?_ | (refine aops_pd tok rfl rfl rfl rfl ?_ ?_ <;> intro e_) | refine aops_p tok rfl rfl rfl rfl ?_ | refine acode_it rfl ?_ | refine acode_if rfl ?_ | refine acode_seq ?_ | refine acode_region ?_ | refine acode_block ?_ | refine acode_skip ?_ | refine then_n ?_)
      · have hqt : q < ts.length := by omega
        obtain ⟨t, ht⟩ : ∃ t, ts[q]? = some t := ⟨ts[q], List.getElem?_eq_getElem hqt⟩
        refine aops_call Try.func57 rfl rfl rfl rfl (hnc b bs _ ks hks q hqt) rfl rfl ?_
        rintro x M' ⟨t', h1', rfl, ks', hks', rfl⟩
        obtain rfl : t = t' := Option.some.inj (ht.symm.trans h1')
        refine aops_put rfl ?_
        refine aops_litn tok rfl rfl rfl rfl rfl rfl rfl ?_
        refine aops_append tok 2 (m := 1) (ds := trC t) rfl rfl rfl (.inl (by rw [trC_eq]; rfl)) rfl rfl (by rw [encs_len trC_len, List.length_take, Nat.min_eq_left (by omega)]) (by rw [trC_len]; rfl) (by rw [trC_eq]; rfl) rfl (by show _ * 40 ≤ _; omega) (by omega) rfl rfl fun ob' cap' => ?_
        repeat (first | refine aops_put rfl ?_ | refine aops_end ?_ | refine aops_endb ?_ | refine aops_a tok rfl (by omega) (by omega) rfl rfl rfl ?_ | refine aops_p tok rfl rfl rfl rfl ?_ | refine acode_region ?_ | refine then_n ?_)
        refine ⟨(q + 1, ob', cap', ks'), ⟨by simp only; omega, hks'⟩, by simp only; omega, ⟨rfl, rfl, rfl, rfl, rfl, rfl, trivial⟩, ?_⟩
        simp only [List.take_add_one, ht, encs_app]
        simp [encs]
      · obtain ⟨e1, e2⟩ := fin (by omega)
        refine acode_exit ?_
        repeat (first | refine exit_then ?_ | refine exit_here ?_ | refine then_n ?_)
        exact ⟨(ob, cap, ks), trivial, ⟨rfl, rfl, by rw [e2]; rfl, trivial⟩, by rw [e1]⟩
      · obtain ⟨e1, e2⟩ := fin (by omega)
        refine acode_exit ?_
        repeat (first | refine exit_then ?_ | refine exit_here ?_ | refine then_n ?_)
        exact ⟨(ob, cap, ks), trivial, ⟨rfl, rfl, by rw [e2]; rfl, trivial⟩, by rw [e1]⟩
    · rintro ⟨ob, cap, ks'⟩ -
      simp only
      refine acode_perm (⟨ob, cap * 3, encs trC (ts.take c)⟩ :: wkC f b bs ks' M) perm3 ?_
      refine acode_pub0 9 3 rfl rfl (by rw [encs_len trC_len]) rfl ?_
      refine acode_drop0 (acode_drop0 ?_)
      repeat (first | refine aops_end ?_ | refine aops_p tok rfl rfl rfl rfl ?_ | refine acode_seq ?_ | refine acode_region ?_)
      refine acode_ret ?_
      skip
      refine ⟨_, ⟨.inl ⟨h, rfl⟩, rfl⟩, _, _, rfl, resOf_tmp rfl, resOf_tmp ?_⟩
      show A.bool (decide ((ts.length : Int) ≤ c)) = A.bool (decide (ts.length ≤ c))
      rw [decide_eq_decide.2 Int.ofNat_le]
  · repeat' (first | refine aops_put rfl ?_ | refine aops_end ?_ | refine aops_p tok rfl rfl rfl rfl ?_ | refine acode_it rfl ?_ | refine acode_seq ?_ | refine acode_region ?_)
    refine acode_ret ?_
    repeat (refine ret_then ?_)
    exact ⟨_, ⟨.inr ⟨h, rfl⟩, rfl⟩, _, _, rfl, resOf_tmp rfl, resOf_tmp rfl⟩

end Go.Proofs.Ytbnhmioijeagiaa.Ab
/- Chapter 11's and 12's reference, nullable and reachable: pulled out of Set1, Set4, Set8, SetA (printed by genchk.py). No condition. -/
set_option linter.unusedVariables false
set_option linter.unusedSimpArgs false
namespace Go.Proofs.Ytbnhmioijeagiaa.Ab
attribute [local irreducible] thenA inBlockA ACode AOps put IntKind.wrap

def bools (l : List Bool) : List A := l.map A.bool
theorem bools_len (l : List Bool) : (bools l).length = l.length := by simp [bools]
theorem bools_get {l : List Bool} {j : Nat} {x : Bool} (h : l[j]? = some x) : (bools l)[j * 1]? = some (A.bool x) := by rw [Nat.mul_one]; simp [bools, h]
theorem bools_zeros (n : Nat) : zerosA [A.bool false] n = bools (List.replicate n false) := by rw [zerosA_one]; simp [bools]
theorem bools_set {l : List Bool} {j : Nat} (h : j < l.length) (x : Bool) : (bools l).take (j * 1) ++ ([A.bool x] ++ (bools l).drop (j * 1 + 1)) = bools (l.set j x) := by
  rw [Nat.mul_one, List.set_eq_take_append_cons_drop, if_pos h]; simp [bools]
def emptyF (g : Gr) (o : List Bool) (l : List Int) : Bool := l.all fun s => decide (isName g s) && o.getD s.toNat false
def nullS (g : Gr) (x : List Bool × Bool) (r : Ru) : List Bool × Bool := if !(x.1.getD r.left.toNat false) && emptyF g x.1 r.right then (x.1.set r.left.toNat true, true) else x
def nullR (g : Gr) (o : List Bool) : List Bool × Bool := g.rules.foldl (nullS g) (o, false)
def nullI (g : Gr) : Nat → List Bool → List Bool
  | 0, o => o
  | k + 1, o => if (nullR g o).2 then nullI g k (nullR g o).1 else (nullR g o).1
def nullF (g : Gr) (n : Nat) : List Bool := nullI g (n + 1) (List.replicate n false)
theorem nullS_len (g : Gr) (x : List Bool × Bool) (r : Ru) : (nullS g x r).1.length = x.1.length := by
  unfold nullS; split <;> simp
theorem nullS_cnt (g : Gr) (x : List Bool × Bool) (r : Ru) (h0 : r.left.toNat < x.1.length) : (nullS g x r).1.count false ≤ x.1.count false ∧ ((nullS g x r).2 = true → x.2 = true ∨ (nullS g x r).1.count false < x.1.count false) := by
  unfold nullS; split
  · rename_i h
    simp only [Bool.and_eq_true, Bool.not_eq_true'] at h
    have hx : x.1[r.left.toNat] = false := by
      have := h.1
      rwa [List.getD_eq_getElem?_getD, List.getElem?_eq_getElem h0] at this
    have hpos : 0 < x.1.count false := List.count_pos_iff.2 (hx ▸ List.getElem_mem h0)
    have : (x.1.set r.left.toNat true).count false < x.1.count false := by
      rw [List.count_set h0, hx]; simp; omega
    exact ⟨by simp only; omega, fun _ => .inr this⟩
  · exact ⟨Nat.le_refl _, fun h => .inl h⟩
theorem nullL_len (g : Gr) : ∀ (rs : List Ru) (x : List Bool × Bool), (rs.foldl (nullS g) x).1.length = x.1.length
  | [], _ => rfl
  | r :: rs, x => by rw [List.foldl_cons, nullL_len g rs, nullS_len]
theorem nullL_cnt (g : Gr) (n : Nat) : ∀ (rs : List Ru) (x : List Bool × Bool), (∀ r ∈ rs, r.left.toNat < n) → x.1.length = n → (rs.foldl (nullS g) x).1.count false ≤ x.1.count false ∧ ((rs.foldl (nullS g) x).2 = true → x.2 = true ∨ (rs.foldl (nullS g) x).1.count false < x.1.count false)
  | [], x, _, _ => ⟨Nat.le_refl _, fun h => .inl h⟩
  | r :: rs, x, h, hl => by
    obtain ⟨a1, a2⟩ := nullS_cnt g x r (by rw [hl]; exact h r (by simp))
    obtain ⟨b1, b2⟩ := nullL_cnt g n rs (nullS g x r) (fun r hr => h r (by simp [hr])) (by rw [nullS_len, hl])
    rw [List.foldl_cons]
    refine ⟨Nat.le_trans b1 a1, fun h => ?_⟩
    rcases b2 h with h | h
    · rcases a2 h with h | h
      · exact .inl h
      · exact .inr (by omega)
    · exact .inr (by omega)
def fewB (g : Gr) : Prop := g.rules.length ≤ 70 ∧ g.forbid.length ≤ 250 ∧ g.rc.length ≤ 100 ∧ g.kc.length ≤ 100
instance (g : Gr) : Decidable (fewB g) := inferInstanceAs (Decidable (_ ∧ _ ∧ _ ∧ _))
theorem few_calls {g : Gr} (M : List Ob) : ACalls Try.prog 11 [grA g] M (fun r M' => r = .bool (decide (fewB g)) ∧ M' = M) := by
  refine acalls_of_code 25 Try.func11 rfl rfl rfl ?_
  repeat (first | refine acode_seq ?_ | refine acode_region ?_)
  refine aops_boxf rfl rfl rfl rfl rfl rfl rfl ?_
  repeat' (first | refine aops_end ?_ | refine aops_o rfl rfl rfl ?_ | (refine aops_pd tok rfl rfl rfl rfl ?_ ?_ <;> intro e_) | refine aops_p tok rfl rfl rfl rfl ?_ | refine acode_seq ?_ | refine acode_region ?_)
  all_goals
    refine acode_ret ?_
    skip
    exact ⟨.bool (decide (fewB g)), ⟨rfl, rfl⟩, resOf_tmp (by first | exact bt (by unfold fewB; omega) | exact bf (by unfold fewB; omega))⟩
def fixI {α : Type} (R : α → α × Bool) : Nat → α → α
  | 0, x => x
  | q + 1, x => if (R x).2 then fixI R q (R x).1 else (R x).1
theorem fixI_done {α : Type} {R : α → α × Bool} {m : α → Nat} {p : α → Prop} (hp : ∀ x, p x → p (R x).1) (hm : ∀ x, p x → (R x).2 = true → m (R x).1 < m x) : ∀ (q : Nat) (x : α), p x → m x < q → ∃ y, p y ∧ (R y).2 = false ∧ fixI R q x = (R y).1
  | 0, x, _, h => by omega
  | q + 1, x, h, hq => by
    rw [fixI]
    cases hb : (R x).2 with
    | true => exact fixI_done hp hm q _ (hp x h) (by have := hm x h hb; omega)
    | false => exact ⟨x, h, hb, rfl⟩
theorem fixI_ok {α : Type} {R : α → α × Bool} {p : α → Prop} (hp : ∀ x, p x → p (R x).1) : ∀ (q : Nat) (x : α), p x → p (fixI R q x)
  | 0, x, h => h
  | q + 1, x, h => by
    rw [fixI]
    split
    · exact fixI_ok hp q _ (hp x h)
    · exact hp x h
theorem formed_calls {g : Gr} (hg : GrOk g) (M : List Ob) : ACalls Try.prog 68 [grA g] M (fun r M' => r = .bool (decide ((formF g).2 = 0)) ∧ M' = M) := by
  refine acalls_of_code 12 Try.func68 rfl rfl rfl ?_
  repeat (first | refine acode_seq ?_ | refine acode_region ?_)
  refine aops_boxf rfl rfl rfl rfl rfl rfl rfl ?_
  repeat (first | refine aops_end ?_ | refine aops_p tok rfl rfl rfl rfl ?_ | refine acode_seq ?_ | refine acode_region ?_)
  refine aops_callx Try.func29 rfl rfl rfl rfl (rform_calls hg _) rfl rfl rfl ?_
  repeat' (first | refine aops_end ?_ | (refine aops_pd tok rfl rfl rfl rfl ?_ ?_ <;> intro e_) | refine aops_p tok rfl rfl rfl rfl ?_ | refine acode_seq ?_ | refine acode_region ?_)
  · refine acode_ret ?_
    skip
    exact ⟨.bool (decide ((formF g).2 = 0)), ⟨rfl, rfl⟩, resOf_tmp (bt e_)⟩
  · refine acode_ret ?_
    skip
    exact ⟨.bool (decide ((formF g).2 = 0)), ⟨rfl, rfl⟩, resOf_tmp (bf e_)⟩
def nz (g : Gr) (o : List Bool) (r : Ru) (q : Nat) : Bool := !(o.getD r.left.toNat false) && emptyF g o (r.right.take q)
theorem nz_end {g : Gr} {o : List Bool} {r : Ru} : nz g o r r.right.length = (!(o.getD r.left.toNat false) && emptyF g o r.right) := by unfold nz; rw [List.take_length]
theorem nz_false {g : Gr} {o : List Bool} {r : Ru} {q : Nat} (h : nz g o r q = false) : nz g o r r.right.length = false := by
  cases h2 : nz g o r r.right.length with
  | false => rfl
  | true =>
    unfold nz emptyF at h h2
    rw [List.take_length] at h2
    simp only [Bool.and_eq_true, List.all_eq_true] at h2
    have : (!(o.getD r.left.toNat false) && (r.right.take q).all fun s => decide (isName g s) && o.getD s.toNat false) = true := by
      simp only [Bool.and_eq_true, List.all_eq_true]
      exact ⟨h2.1, fun s hs => h2.2 s (List.mem_of_mem_take hs)⟩
    rw [this] at h
    cases h
theorem nz_succ {g : Gr} {o : List Bool} {r : Ru} {q : Nat} {s : Int} (hs : r.right[q]? = some s) : nz g o r (q + 1) = (nz g o r q && (decide (isName g s) && o.getD s.toNat false)) := by
  unfold nz emptyF
  rw [List.take_add_one, hs, List.all_append]
  simp [Bool.and_assoc]
set_option maxHeartbeats 4000000 in
theorem rnullable_calls {g : Gr} {n : Nat} (hg : GrOk g) (h : (formF g).2 = 0) (hn : g.names = n) (hn2 : n ≤ 1000) (hw : ∀ r ∈ g.rules, isName g r.left) (hsy : ∀ r ∈ g.rules, ∀ s ∈ r.right, isSym g s) (M : List Ob) :
    ACalls Try.prog 70 [grA g] M (fun r M' => r = .psl n (bools (nullF g n)) ∧ M' = M) := by
  have hrl := hg.rl
  have hlt : ∀ r ∈ g.rules, r.left.toNat < n := fun r hr => by have := hw r hr; unfold isName at this; omega
  refine acalls_of_code 66 Try.func70 rfl rfl rfl ?_
  repeat (first | refine acode_seq ?_ | refine acode_region ?_)
  refine aops_boxf rfl rfl rfl rfl rfl rfl rfl ?_
  repeat (first | refine aops_end ?_ | refine aops_p tok rfl rfl rfl rfl ?_ | refine acode_seq ?_ | refine acode_region ?_)
  refine aops_callx Try.func68 rfl rfl rfl rfl (formed_calls hg _) rfl rfl rfl ?_
  rw [decide_eq_true h]
  repeat' (first | refine aops_end ?_ | refine aops_p tok rfl rfl rfl rfl ?_ | refine acode_if rfl ?_ | refine acode_seq ?_ | refine acode_region ?_ | refine acode_skip ?_ | refine then_n ?_)
  refine aops_mk tok n rfl rfl rfl rfl hn rfl (by show _ * 1 ≤ _; omega) (by omega) rfl rfl rfl fun bo => ?_
  repeat (first | refine aops_end ?_ | refine aops_p tok rfl rfl rfl rfl ?_ | refine acode_seq ?_ | refine acode_region ?_ | refine acode_block ?_)
  refine acode_loopS (ι := Nat × List Bool × Bool) (fun p => [(1, .pp (grC g)), (3, .own (some bo) n n), (4, .bool p.2.2)]) (fun p => ⟨some bo, n * 1, bools p.2.1⟩ :: M) (fun p => if p.2.2 then p.1 + 1 else 0) (fun p => p.2.1.length = n ∧ (p.2.2 = true → nullI g p.1 p.2.1 = nullF g n ∧ p.2.1.count false < p.1) ∧ (p.2.2 = false → p.2.1 = nullF g n)) (n + 1, List.replicate n false, true) ⟨by simp, fun _ => ⟨rfl, by simp⟩, fun h => by cases h⟩ ⟨rfl, rfl, rfl, trivial⟩ (by simp only; rw [← bools_zeros]; rfl) ?_
  rintro ⟨k, o, more⟩ ⟨hol, hm, hd⟩
  simp only at hol hm hd ⊢
  cases more with
  | false =>
    have hfin := hd rfl
    repeat' (first | refine aops_end ?_ | refine aops_p tok rfl rfl rfl rfl ?_ | refine acode_if rfl ?_ | refine acode_seq ?_ | refine acode_region ?_)
    refine acode_exit ?_
    repeat (first | refine exit_then ?_ | refine exit_here ?_ | refine then_n ?_)
    repeat (first | refine aops_end ?_ | refine aops_p tok rfl rfl rfl rfl ?_ | refine acode_seq ?_ | refine acode_region ?_)
    refine acode_pub0 2 1 rfl rfl (by rw [bools_len, hol, Nat.mul_one]) rfl ?_
    refine acode_ret ?_
    skip
    exact ⟨_, ⟨by rw [hfin]; rfl, rfl⟩, resOf_tmp rfl⟩
  | true =>
    obtain ⟨hI, hcnt⟩ := hm rfl
    clear hm hd
    obtain ⟨k', rfl⟩ : ∃ k', k = k' + 1 := ⟨k - 1, by omega⟩
    have hRl : (nullR g o).1.length = n := by unfold nullR; rw [nullL_len]; exact hol
    have hRc := nullL_cnt g n g.rules (o, false) hlt hol
    change (nullR g o).1.count false ≤ _ ∧ ((nullR g o).2 = true → _) at hRc
    simp only [nullI] at hI
    repeat' (first | refine aops_end ?_ | refine aops_p tok rfl rfl rfl rfl ?_ | refine acode_it rfl ?_ | refine acode_seq ?_ | refine acode_region ?_ | refine acode_block ?_ | refine acode_skip ?_ | refine then_n ?_)
    refine acode_loopS (ι := Nat × List Bool × Bool) (fun p => [(1, .pp (grC g)), (3, .own (some bo) n n), (4, .bool p.2.2), (5, .int .i64 p.1)]) (fun p => ⟨some bo, n * 1, bools p.2.1⟩ :: M) (fun p => g.rules.length - p.1) (fun p => p.1 ≤ g.rules.length ∧ p.2.1.length = n ∧ (g.rules.drop p.1).foldl (nullS g) (p.2.1, p.2.2) = nullR g o) (0, o, false) ⟨Nat.zero_le _, hol, rfl⟩ ⟨rfl, rfl, rfl, rfl, trivial⟩ rfl ?_
    rintro ⟨q, o1, m1⟩ ⟨hq, ho1, hfold⟩
    simp only at hq ho1 hfold ⊢
    repeat (first | refine aops_end ?_ | refine aops_p tok rfl rfl rfl rfl ?_ | refine acode_seq ?_ | refine acode_region ?_)
    refine acode_id rfl (fun e => ?_) (fun e => ?_)
    · have hql : q < g.rules.length := by omega
      obtain ⟨r, hr⟩ : ∃ r, g.rules[q]? = some r := ⟨g.rules[q], List.getElem?_eq_getElem hql⟩
      have hrm := List.mem_of_getElem? hr
      have hdr : g.rules.drop q = r :: g.rules.drop (q + 1) := by
        rw [List.drop_eq_getElem_cons hql]
        rw [List.getElem?_eq_getElem hql] at hr
        rw [Option.some.inj hr]
      rw [hdr, List.foldl_cons] at hfold
      obtain ⟨hr0, hr1⟩ := hw r hrm
      have hl1 := hlt r hrm
      have hrr := (hg.rr r hrm).1
      have hrg := (hg.rr r hrm).2
      obtain ⟨x, hx⟩ : ∃ x, o1[r.left.toNat]? = some x := ⟨o1[r.left.toNat]'(by omega), List.getElem?_eq_getElem (by omega)⟩
      have hgd : o1.getD r.left.toNat false = x := by rw [List.getD_eq_getElem?_getD, hx]; rfl
      repeat (first | refine aops_p tok rfl rfl rfl rfl ?_ | refine acode_seq ?_ | refine acode_region ?_ | refine acode_block ?_ | refine acode_skip ?_ | refine then_n ?_)
      refine aops_ix tok (ruC r) rfl rfl rfl rfl (by omega) (by omega) (by simp [ruC]) (encs_at (e := ruC) (s := 3) (fun _ => rfl) (i := (q : Int).toNat) (by simpa using hr)) rfl rfl rfl ?_
      repeat (refine aops_p tok rfl rfl rfl rfl ?_)
      refine aops_alloc tok rfl rfl rfl rfl rfl rfl fun ba => ?_
      refine aops_stn tok rfl rfl rfl rfl rfl rfl rfl rfl rfl ?_
      refine aops_pubref0 6 rfl ?_
      repeat (first | refine aops_end ?_ | refine aops_p tok rfl rfl rfl rfl ?_ | refine acode_seq ?_ | refine acode_region ?_)
      refine aops_ixo tok rfl rfl rfl rfl hr0 (by omega) rfl rfl rfl ?_
      refine aops_ld tok 0 (y := .bool x) rfl rfl rfl rfl (by rw [headed_eq]; exact bools_get hx) rfl rfl rfl ?_
      have h0 : nz g o1 r 0 = !x := by unfold nz emptyF; rw [hgd]; simp
      repeat (refine aops_p tok rfl rfl rfl rfl ?_)
      refine aops_end ?_
      refine acode_seq ?_
      refine acode_join [(1, .pp (grC g)), (3, .own (some bo) n n), (4, .bool m1), (5, .int .i64 q), (6, .pp (ruC r)), (7, .bool (nz g o1 r r.right.length))] (⟨some bo, n * 1, bools o1⟩ :: M) ?_ ?_
      · repeat (first | refine aops_end ?_ | refine aops_p tok rfl rfl rfl rfl ?_ | refine acode_seq ?_ | refine acode_region ?_ | refine acode_block ?_)
        refine acode_loopS (ι := Nat) (fun j => [(1, .pp (grC g)), (3, .own (some bo) n n), (4, .bool m1), (5, .int .i64 q), (6, .pp (ruC r)), (7, .bool (nz g o1 r j)), (8, .int .i64 j)]) (fun _ => ⟨some bo, n * 1, bools o1⟩ :: M) (fun j => r.right.length - j) (fun j => j ≤ r.right.length) 0 (Nat.zero_le _) ⟨rfl, rfl, rfl, rfl, rfl, by rw [h0]; rfl, rfl, trivial⟩ rfl ?_
        intro j hj
        cases hok : nz g o1 r j with
        | false =>
          repeat' (first | refine aops_end ?_ | refine aops_o rfl rfl rfl ?_ | (refine aops_pd tok rfl rfl rfl rfl ?_ ?_ <;> intro e_) | refine aops_p tok rfl rfl rfl rfl ?_ | refine acode_if rfl ?_ | refine acode_seq ?_ | refine acode_region ?_)
          all_goals
            refine acode_exit ?_
            repeat (first | refine exit_then ?_ | refine exit_here ?_ | refine then_n ?_)
            exact ⟨⟨rfl, rfl, rfl, rfl, rfl, by rw [nz_false hok]; rfl, trivial⟩, rfl⟩
        | true =>
          by_cases hjl : j < r.right.length
          · obtain ⟨s, hsx⟩ : ∃ s, r.right[j]? = some s := ⟨r.right[j]'(by omega), List.getElem?_eq_getElem (by omega)⟩
            have hsu := nz_succ (g := g) (o := o1) hsx
            have hsm := List.mem_of_getElem? hsx
            have hss := hsy r hrm s hsm
            unfold isSym isKind at hss
            rw [hok, Bool.true_and] at hsu
            repeat' (first | refine aops_end ?_ | refine aops_pbt tok rfl (by first | omega | decide) rfl rfl rfl ?_ | refine aops_p tok rfl rfl rfl rfl ?_ | refine acode_it rfl ?_ | refine acode_seq ?_ | refine acode_region ?_ | refine acode_block ?_ | refine acode_skip ?_ | refine then_n ?_)
            refine aops_ix tok [A.int .i64 s] rfl rfl rfl rfl (by omega) (by omega) (by simp) (ints_at (j := j) (by simpa using hsx)) rfl rfl rfl ?_
            by_cases hs0 : 0 ≤ s
            · have hnm : isName g s := by unfold isName; unfold isName at hss; omega
              obtain ⟨n0, n1⟩ := id hnm
              obtain ⟨z, hz⟩ : ∃ z, o1[s.toNat]? = some z := ⟨o1[s.toNat]'(by omega), List.getElem?_eq_getElem (by omega)⟩
              have hzd : o1.getD s.toNat false = z := by rw [List.getD_eq_getElem?_getD, hz]; rfl
              rw [decide_eq_true hnm, hzd, Bool.true_and] at hsu
              repeat' (first | refine aops_pbt tok rfl (by first | omega | decide) rfl rfl rfl ?_ | refine aops_p tok rfl rfl rfl rfl ?_)
              refine aops_ix tok [A.int .i64 s] rfl rfl rfl rfl (by omega) (by omega) (by simp) (ints_at (j := j) (by simpa using hsx)) rfl rfl rfl ?_
              repeat (refine aops_p tok rfl rfl rfl rfl ?_)
              refine aops_ixo tok rfl rfl rfl rfl hs0 (by omega) rfl rfl rfl ?_
              refine aops_ld tok 0 (y := .bool z) rfl rfl rfl rfl (by rw [headed_eq]; exact bools_get hz) rfl rfl rfl ?_
              repeat (first | refine aops_end ?_ | refine aops_endb ?_ | refine aops_a tok rfl (by omega) (by omega) rfl rfl rfl ?_ | refine aops_p tok rfl rfl rfl rfl ?_ | refine acode_region ?_ | refine then_n ?_)
              exact ⟨j + 1, by omega, by omega, ⟨rfl, rfl, rfl, rfl, rfl, by rw [hsu]; rfl, rfl, trivial⟩, rfl⟩
            · rw [decide_eq_false (by unfold isName; omega), Bool.false_and] at hsu
              repeat' (first | refine aops_end ?_ | refine aops_endb ?_ | refine aops_o rfl rfl rfl ?_ | refine aops_a tok rfl (by omega) (by omega) rfl rfl rfl ?_ | refine aops_pbf tok rfl (by first | omega | decide) rfl rfl rfl ?_ | refine aops_p tok rfl rfl rfl rfl ?_ | refine acode_region ?_ | refine then_n ?_)
              exact ⟨j + 1, by omega, by omega, ⟨rfl, rfl, rfl, rfl, rfl, by rw [hsu]; rfl, rfl, trivial⟩, rfl⟩
          · obtain rfl : j = r.right.length := by omega
            repeat' (first | refine aops_end ?_ | refine aops_o rfl rfl rfl ?_ | refine aops_pbf tok rfl (by first | omega | decide) rfl rfl rfl ?_ | refine aops_p tok rfl rfl rfl rfl ?_ | refine acode_if rfl ?_ | refine acode_seq ?_ | refine acode_region ?_)
            refine acode_exit ?_
            repeat (first | refine exit_then ?_ | refine exit_here ?_ | refine then_n ?_)
            exact ⟨⟨rfl, rfl, rfl, rfl, rfl, by rw [hok]; rfl, trivial⟩, rfl⟩
      have hne := nz_end (g := g) (o := o1) (r := r)
      cases hE : nz g o1 r r.right.length with
      | true =>
        have hst : nullS g (o1, m1) r = (o1.set r.left.toNat true, true) := by unfold nullS; rw [if_pos (by rw [← hne, hE])]
        rw [hst] at hfold
        repeat' (first | refine aops_end ?_ | refine aops_p tok rfl rfl rfl rfl ?_ | refine acode_it rfl ?_ | refine acode_seq ?_ | refine acode_region ?_)
        refine aops_ixo tok rfl rfl rfl rfl hr0 (by omega) rfl rfl rfl ?_
        refine aops_sto tok (bools (o1.set r.left.toNat true)) rfl rfl rfl rfl rfl (by rw [bools_len, ho1]; show r.left.toNat * 1 + 1 ≤ _; omega) (bools_set (by omega) true) rfl rfl ?_
        repeat (first | refine aops_end ?_ | refine aops_endb ?_ | refine aops_a tok rfl (by omega) (by omega) rfl rfl rfl ?_ | refine aops_p tok rfl rfl rfl rfl ?_ | refine acode_region ?_ | refine then_n ?_)
        exact ⟨(q + 1, o1.set r.left.toNat true, true), ⟨by simp; omega, by simp [ho1], hfold⟩, by simp; omega, ⟨rfl, rfl, rfl, rfl, trivial⟩, rfl⟩
      | false =>
        have hst : nullS g (o1, m1) r = (o1, m1) := by unfold nullS; rw [if_neg (by rw [← hne, hE]; simp)]
        rw [hst] at hfold
        repeat' (first | refine aops_end ?_ | refine aops_a tok rfl (by omega) (by omega) rfl rfl rfl ?_ | refine aops_p tok rfl rfl rfl rfl ?_ | refine acode_if rfl ?_ | refine acode_seq ?_ | refine acode_region ?_ | refine acode_skip ?_ | refine then_n ?_ | refine block_n ?_)
        exact ⟨(q + 1, o1, m1), ⟨by simp; omega, ho1, hfold⟩, by simp; omega, ⟨rfl, rfl, rfl, rfl, trivial⟩, rfl⟩
    · have hge : q = g.rules.length := by omega
      subst hge
      rw [List.drop_length] at hfold
      simp only [List.foldl_nil] at hfold
      refine acode_exit ?_
      repeat (first | refine exit_then ?_ | refine exit_here ?_ | refine then_n ?_ | refine block_n ?_)
      skip
      refine ⟨(k', o1, m1), ⟨ho1, fun h => ?_, fun h => ?_⟩, ?_, ⟨rfl, rfl, rfl, trivial⟩, rfl⟩
      · simp only at h
        have h2 : (nullR g o).2 = true := by rw [← hfold]; exact h
        rw [if_pos h2] at hI
        refine ⟨by rw [← hI, ← hfold], ?_⟩
        rcases hRc.2 h2 with h3 | h3
        · cases h3
        · change (nullR g o).1.count false < o.count false at h3
          rw [← hfold] at h3; simp only at h3 ⊢; omega
      · simp only at h
        have h2 : (nullR g o).2 = false := by rw [← hfold]; exact h
        rw [h2] at hI
        rw [if_neg (by simp)] at hI
        rw [← hI, ← hfold]
      · simp only
        cases m1 <;> simp
def Gw {α : Type} (p : α → Prop) (m : α → Nat) (x y : α × Bool) : Prop := p x.1 → p y.1 ∧ m y.1 ≤ m x.1 ∧ (y.2 = true → x.2 = true ∨ m y.1 < m x.1)
theorem gw_refl {α : Type} {p : α → Prop} {m : α → Nat} (x : α × Bool) : Gw p m x x := fun h => ⟨h, Nat.le_refl _, fun h => .inl h⟩
theorem gw_trans {α : Type} {p : α → Prop} {m : α → Nat} {x y z : α × Bool} (h1 : Gw p m x y) (h2 : Gw p m y z) : Gw p m x z := fun h => by
  obtain ⟨a1, a2, a3⟩ := h1 h
  obtain ⟨b1, b2, b3⟩ := h2 a1
  refine ⟨b1, by omega, fun h => ?_⟩
  rcases b3 h with h | h
  · rcases a3 h with h | h
    · exact .inl h
    · exact .inr (by omega)
  · exact .inr (by omega)
theorem gw_fold {α β : Type} {p : α → Prop} {m : α → Nat} {f : α × Bool → β → α × Bool} : ∀ (l : List β) (x : α × Bool), (∀ b ∈ l, ∀ x, Gw p m x (f x b)) → Gw p m x (l.foldl f x)
  | [], x, _ => gw_refl x
  | b :: l, x, h => gw_trans (h b (by simp) x) (gw_fold l _ fun b hb => h b (by simp [hb]))
def reach1 (g : Gr) (r : Ru) (x : List Bool × Bool) (s : Int) : List Bool × Bool := if x.1.getD r.left.toNat false = true ∧ isName g s ∧ x.1.getD s.toNat false = false then (x.1.set s.toNat true, true) else x
def reachS (g : Gr) (x : List Bool × Bool) (r : Ru) : List Bool × Bool := r.right.foldl (reach1 g r) x
def reachR (g : Gr) (o : List Bool) : List Bool × Bool := g.rules.foldl (reachS g) (o, false)
def reach0 (g : Gr) (n : Nat) : List Bool := (List.replicate n false).set g.start.toNat true
def reachF (g : Gr) (n : Nat) : List Bool := fixI (reachR g) (n + 1) (reach0 g n)
theorem reach0_len (g : Gr) (n : Nat) : (reach0 g n).length = n := by simp [reach0]
theorem reach1_gw {g : Gr} {n : Nat} (hn : g.names = n) (r : Ru) (x : List Bool × Bool) (s : Int) : Gw (fun o => o.length = n) (fun o => o.count false) x (reach1 g r x s) := by
  intro hx
  unfold reach1
  split
  · rename_i h
    obtain ⟨h1, h2, h3⟩ := h
    unfold isName at h2
    have h0 : s.toNat < x.1.length := by omega
    have hxs : x.1[s.toNat] = false := by
      rwa [List.getD_eq_getElem?_getD, List.getElem?_eq_getElem h0] at h3
    have hpos : 0 < x.1.count false := List.count_pos_iff.2 (hxs ▸ List.getElem_mem h0)
    have : (x.1.set s.toNat true).count false < x.1.count false := by
      rw [List.count_set h0, hxs]; simp; omega
    exact ⟨by simpa using hx, by simp only; omega, fun _ => .inr this⟩
  · exact gw_refl (p := fun o => o.length = n) (m := fun o => o.count false) x hx
theorem reachR_gw {g : Gr} {n : Nat} (hn : g.names = n) (o : List Bool) : Gw (fun o => o.length = n) (fun o => o.count false) (o, false) (reachR g o) :=
  gw_fold _ _ fun r _ x => gw_fold _ _ fun s _ y => reach1_gw hn r y s
theorem reach1_skip {g : Gr} {r : Ru} : ∀ (l : List Int) (x : List Bool × Bool), x.1.getD r.left.toNat false = false → l.foldl (reach1 g r) x = x
  | [], x, h => rfl
  | s :: l, x, h => by
    have : reach1 g r x s = x := by unfold reach1; rw [if_neg (by rw [h]; simp)]
    rw [List.foldl_cons, this]; exact reach1_skip l x h
theorem reachF_len {g : Gr} {n : Nat} (hn : g.names = n) : (reachF g n).length = n := fixI_ok (p := fun o => o.length = n) (fun x h => (reachR_gw hn x h).1) _ _ (reach0_len g n)
theorem reach0_cnt (g : Gr) (n : Nat) : (reach0 g n).count false < n + 1 := Nat.lt_succ_of_le (by have := List.count_le_length (a := false) (l := reach0 g n); rwa [reach0_len] at this)
set_option maxHeartbeats 8000000 in
theorem rreach_calls {g : Gr} {n : Nat} (hg : GrOk g) (h : (formF g).2 = 0) (hn : g.names = n) (hn2 : n ≤ 1000) (hst : isName g g.start) (hw : ∀ r ∈ g.rules, isName g r.left) (hsy : ∀ r ∈ g.rules, ∀ s ∈ r.right, isSym g s) (M : List Ob) :
    ACalls Try.prog 30 [grA g] M (fun r M' => r = .psl n (bools (reachF g n)) ∧ M' = M) := by
  have hrl := hg.rl
  obtain ⟨s0, s1⟩ := id hst
  refine acalls_of_code 70 Try.func30 rfl rfl rfl ?_
  repeat (first | refine acode_seq ?_ | refine acode_region ?_)
  refine aops_boxf rfl rfl rfl rfl rfl rfl rfl ?_
  repeat (first | refine aops_end ?_ | refine aops_p tok rfl rfl rfl rfl ?_ | refine acode_seq ?_ | refine acode_region ?_)
  refine aops_callx Try.func68 rfl rfl rfl rfl (formed_calls hg _) rfl rfl rfl ?_
  rw [decide_eq_true h]
  repeat' (first | refine aops_end ?_ | refine aops_p tok rfl rfl rfl rfl ?_ | refine acode_if rfl ?_ | refine acode_seq ?_ | refine acode_region ?_ | refine acode_skip ?_ | refine then_n ?_)
  refine aops_mk tok n rfl rfl rfl rfl hn rfl (by show _ * 1 ≤ _; omega) (by omega) rfl rfl rfl fun bo => ?_
  repeat (first | refine aops_end ?_ | refine aops_p tok rfl rfl rfl rfl ?_ | refine acode_seq ?_ | refine acode_region ?_)
  refine aops_ixo tok rfl rfl rfl rfl s0 (by omega) rfl rfl rfl ?_
  refine aops_sto tok (bools (reach0 g n)) rfl rfl rfl rfl rfl (by show g.start.toNat * 1 + 1 ≤ (zerosA [A.bool false] n).length; rw [bools_zeros, bools_len, List.length_replicate]; omega) (by show (zerosA [A.bool false] n).take (g.start.toNat * 1) ++ ([A.bool true] ++ (zerosA [A.bool false] n).drop (g.start.toNat * 1 + 1)) = _; rw [bools_zeros]; exact bools_set (by simp; omega) true) rfl rfl ?_
  have hR0 : fixI (reachR g) (n + 1) (reach0 g n) = reachF g n := rfl
  have hlen := reachF_len (g := g) hn
  have h0c := reach0_cnt g n
  have h0l := reach0_len g n
  generalize reachF g n = fin at *
  generalize reach0 g n = o0 at *
  repeat (first | refine aops_end ?_ | refine aops_p tok rfl rfl rfl rfl ?_ | refine acode_seq ?_ | refine acode_region ?_ | refine acode_block ?_)
  refine acode_loopS (ι := Nat × List Bool × Bool) (fun p => [(1, .pp (grC g)), (3, .own (some bo) n n), (4, .bool p.2.2)]) (fun p => ⟨some bo, n * 1, bools p.2.1⟩ :: M) (fun p => if p.2.2 then p.1 + 1 else 0) (fun p => p.2.1.length = n ∧ (p.2.2 = true → fixI (reachR g) p.1 p.2.1 = fin ∧ p.2.1.count false < p.1) ∧ (p.2.2 = false → p.2.1 = fin)) (n + 1, o0, true) ⟨h0l, fun _ => ⟨hR0, h0c⟩, fun h => by cases h⟩ ⟨rfl, rfl, rfl, trivial⟩ rfl ?_
  rintro ⟨q, o, more⟩ ⟨hol, hm, hd⟩
  simp only at hol hm hd ⊢
  cases more with
  | false =>
    obtain rfl := hd rfl
    repeat' (first | refine aops_end ?_ | refine aops_p tok rfl rfl rfl rfl ?_ | refine acode_if rfl ?_ | refine acode_seq ?_ | refine acode_region ?_)
    refine acode_exit ?_
    repeat (first | refine exit_then ?_ | refine exit_here ?_ | refine then_n ?_)
    repeat (first | refine aops_end ?_ | refine aops_p tok rfl rfl rfl rfl ?_ | refine acode_seq ?_ | refine acode_region ?_)
    refine acode_pub0 2 1 rfl rfl (by rw [bools_len, hol, Nat.mul_one]) rfl ?_
    refine acode_ret ?_
    skip
    exact ⟨_, ⟨rfl, rfl⟩, resOf_tmp rfl⟩
  | true =>
    obtain ⟨hI, hcnt⟩ := hm rfl
    clear hm hd
    obtain ⟨q', rfl⟩ : ∃ q', q = q' + 1 := ⟨q - 1, by omega⟩
    obtain ⟨hRl, hR1, hR2⟩ := reachR_gw hn o hol
    simp only [fixI] at hI
    simp only at hR1 hR2 hRl
    repeat' (first | refine aops_end ?_ | refine aops_p tok rfl rfl rfl rfl ?_ | refine acode_it rfl ?_ | refine acode_seq ?_ | refine acode_region ?_ | refine acode_block ?_ | refine acode_skip ?_ | refine then_n ?_)
    refine acode_loopS (ι := Nat × List Bool × Bool) (fun p => [(1, .pp (grC g)), (3, .own (some bo) n n), (4, .bool p.2.2), (5, .int .i64 p.1)]) (fun p => ⟨some bo, n * 1, bools p.2.1⟩ :: M) (fun p => g.rules.length - p.1) (fun p => p.1 ≤ g.rules.length ∧ p.2.1.length = n ∧ (g.rules.drop p.1).foldl (reachS g) (p.2.1, p.2.2) = reachR g o) (0, o, false) ⟨Nat.zero_le _, hol, rfl⟩ ⟨rfl, rfl, rfl, rfl, trivial⟩ rfl ?_
    rintro ⟨j, o1, m1⟩ ⟨hj, ho1, hfold⟩
    simp only at hj ho1 hfold ⊢
    repeat (first | refine aops_end ?_ | refine aops_p tok rfl rfl rfl rfl ?_ | refine acode_seq ?_ | refine acode_region ?_)
    refine acode_id rfl (fun e => ?_) (fun e => ?_)
    · have hjl : j < g.rules.length := by omega
      obtain ⟨r, hr⟩ : ∃ r, g.rules[j]? = some r := ⟨g.rules[j], List.getElem?_eq_getElem hjl⟩
      have hrm := List.mem_of_getElem? hr
      have hdr : g.rules.drop j = r :: g.rules.drop (j + 1) := by
        rw [List.drop_eq_getElem_cons hjl]
        rw [List.getElem?_eq_getElem hjl] at hr
        rw [Option.some.inj hr]
      rw [hdr, List.foldl_cons] at hfold
      obtain ⟨hr0, hr1⟩ := hw r hrm
      have hrr := (hg.rr r hrm).1
      repeat (first | refine aops_p tok rfl rfl rfl rfl ?_ | refine acode_seq ?_ | refine acode_region ?_ | refine acode_block ?_ | refine acode_skip ?_ | refine then_n ?_)
      refine aops_ix tok (ruC r) rfl rfl rfl rfl (by omega) (by omega) (by simp [ruC]) (encs_at (e := ruC) (s := 3) (fun _ => rfl) (i := (j : Int).toNat) (by simpa using hr)) rfl rfl rfl ?_
      repeat (refine aops_p tok rfl rfl rfl rfl ?_)
      refine aops_alloc tok rfl rfl rfl rfl rfl rfl fun ba => ?_
      refine aops_stn tok rfl rfl rfl rfl rfl rfl rfl rfl rfl ?_
      refine aops_pubref0 6 rfl ?_
      repeat (first | refine aops_end ?_ | refine aops_p tok rfl rfl rfl rfl ?_ | refine acode_seq ?_ | refine acode_region ?_ | refine acode_block ?_)
      refine acode_loopS (ι := Nat × List Bool × Bool) (fun p => [(1, .pp (grC g)), (3, .own (some bo) n n), (4, .bool p.2.2), (5, .int .i64 j), (6, .pp (ruC r)), (7, .int .i64 p.1)]) (fun p => ⟨some bo, n * 1, bools p.2.1⟩ :: M) (fun p => r.right.length - p.1) (fun p => p.1 ≤ r.right.length ∧ p.2.1.length = n ∧ (r.right.drop p.1).foldl (reach1 g r) (p.2.1, p.2.2) = reachS g (o1, m1) r) (0, o1, m1) ⟨Nat.zero_le _, ho1, rfl⟩ ⟨rfl, rfl, rfl, rfl, rfl, rfl, trivial⟩ rfl ?_
      rintro ⟨i, o2, m2⟩ ⟨hi, ho2, hf2⟩
      simp only at hi ho2 hf2 ⊢
      by_cases hil : i < r.right.length
      · obtain ⟨s, hs⟩ : ∃ s, r.right[i]? = some s := ⟨r.right[i], List.getElem?_eq_getElem hil⟩
        have hds : r.right.drop i = s :: r.right.drop (i + 1) := by
          rw [List.drop_eq_getElem_cons hil]
          rw [List.getElem?_eq_getElem hil] at hs
          rw [Option.some.inj hs]
        have hss := hsy r hrm s (List.mem_of_getElem? hs)
        obtain ⟨x, hx⟩ : ∃ x, o2[r.left.toNat]? = some x := ⟨o2[r.left.toNat]'(by omega), List.getElem?_eq_getElem (by omega)⟩
        have hgd : o2.getD r.left.toNat false = x := by rw [List.getD_eq_getElem?_getD, hx]; rfl
        repeat' (first | refine aops_pbt tok rfl (by first | omega | decide) rfl rfl rfl ?_ | refine aops_p tok rfl rfl rfl rfl ?_ | refine acode_seq ?_ | refine acode_region ?_)
        refine aops_ixo tok rfl rfl rfl rfl hr0 (by omega) rfl rfl rfl ?_
        refine aops_ld tok 0 (y := .bool x) rfl rfl rfl rfl (by rw [headed_eq]; exact bools_get hx) rfl rfl rfl ?_
        cases x with
        | false =>
          rw [reach1_skip _ _ hgd] at hf2
          rw [← hf2] at hfold
          repeat' (first | refine aops_end ?_ | refine aops_p tok rfl rfl rfl rfl ?_ | refine acode_if rfl ?_)
          refine acode_exit ?_
          repeat (first | refine exit_then ?_ | refine exit_here ?_ | refine then_n ?_ | refine block_n ?_)
          repeat (first | refine aops_end ?_ | refine aops_a tok rfl (by omega) (by omega) rfl rfl rfl ?_ | refine aops_p tok rfl rfl rfl rfl ?_ | refine acode_region ?_)
          exact ⟨(j + 1, o2, m2), ⟨by simp; omega, ho2, hfold⟩, by simp; omega, ⟨rfl, rfl, rfl, rfl, trivial⟩, rfl⟩
        | true =>
          rw [hds, List.foldl_cons] at hf2
          repeat' (first | refine aops_end ?_ | refine aops_p tok rfl rfl rfl rfl ?_ | refine acode_it rfl ?_ | refine acode_seq ?_ | refine acode_region ?_ | refine acode_block ?_ | refine acode_skip ?_ | refine then_n ?_)
          refine aops_ix tok [A.int .i64 s] rfl rfl rfl rfl (by omega) (by omega) (by simp) (ints_at (j := i) (by simpa using hs)) rfl rfl rfl ?_
          by_cases hs0 : 0 ≤ s
          · have hname : isName g s := hss.resolve_left (fun h1 => by unfold isKind at h1; omega)
            obtain ⟨n0, n1⟩ := id hname
            obtain ⟨z, hz⟩ : ∃ z, o2[s.toNat]? = some z := ⟨o2[s.toNat]'(by omega), List.getElem?_eq_getElem (by omega)⟩
            have hzd : o2.getD s.toNat false = z := by rw [List.getD_eq_getElem?_getD, hz]; rfl
            repeat' (first | refine aops_pbt tok rfl (by first | omega | decide) rfl rfl rfl ?_ | refine aops_p tok rfl rfl rfl rfl ?_)
            refine aops_ix tok [A.int .i64 s] rfl rfl rfl rfl (by omega) (by omega) (by simp) (ints_at (j := i) (by simpa using hs)) rfl rfl rfl ?_
            repeat (refine aops_p tok rfl rfl rfl rfl ?_)
            refine aops_ixo tok rfl rfl rfl rfl n0 (by omega) rfl rfl rfl ?_
            refine aops_ld tok 0 (y := .bool z) rfl rfl rfl rfl (by rw [headed_eq]; exact bools_get hz) rfl rfl rfl ?_
            cases z with
            | true =>
              have hst' : reach1 g r (o2, m2) s = (o2, m2) := by unfold reach1; rw [if_neg (by simp only [hzd]; simp)]
              rw [hst'] at hf2
              repeat' (first | refine aops_end ?_ | refine aops_a tok rfl (by omega) (by omega) rfl rfl rfl ?_ | refine aops_p tok rfl rfl rfl rfl ?_ | refine acode_if rfl ?_ | refine acode_region ?_ | refine acode_skip ?_ | refine then_n ?_ | refine block_n ?_)
              exact ⟨(i + 1, o2, m2), ⟨by simp; omega, ho2, hf2⟩, by simp; omega, ⟨rfl, rfl, rfl, rfl, rfl, rfl, trivial⟩, rfl⟩
            | false =>
              have hst' : reach1 g r (o2, m2) s = (o2.set s.toNat true, true) := by unfold reach1; rw [if_pos ⟨hgd, hname, hzd⟩]
              rw [hst'] at hf2
              repeat' (first | refine aops_end ?_ | refine aops_p tok rfl rfl rfl rfl ?_ | refine acode_it rfl ?_ | refine acode_seq ?_ | refine acode_region ?_)
              refine aops_ix tok [A.int .i64 s] rfl rfl rfl rfl (by omega) (by omega) (by simp) (ints_at (j := i) (by simpa using hs)) rfl rfl rfl ?_
              repeat (refine aops_p tok rfl rfl rfl rfl ?_)
              refine aops_ixo tok rfl rfl rfl rfl n0 (by omega) rfl rfl rfl ?_
              refine aops_sto tok (bools (o2.set s.toNat true)) rfl rfl rfl rfl rfl (by rw [bools_len, ho2]; show s.toNat * 1 + 1 ≤ _; omega) (bools_set (by omega) true) rfl rfl ?_
              repeat (first | refine aops_end ?_ | refine aops_endb ?_ | refine aops_a tok rfl (by omega) (by omega) rfl rfl rfl ?_ | refine aops_p tok rfl rfl rfl rfl ?_ | refine acode_region ?_ | refine then_n ?_)
              exact ⟨(i + 1, o2.set s.toNat true, true), ⟨by simp; omega, by simp [ho2], hf2⟩, by simp; omega, ⟨rfl, rfl, rfl, rfl, rfl, rfl, trivial⟩, rfl⟩
          · have hst' : reach1 g r (o2, m2) s = (o2, m2) := by unfold reach1; rw [if_neg (fun h => hs0 (by have := h.2.1; unfold isName at this; omega))]
            rw [hst'] at hf2
            repeat' (first | refine aops_end ?_ | refine aops_o rfl rfl rfl ?_ | refine aops_a tok rfl (by omega) (by omega) rfl rfl rfl ?_ | refine aops_pbf tok rfl (by first | omega | decide) rfl rfl rfl ?_ | refine aops_p tok rfl rfl rfl rfl ?_ | refine acode_if rfl ?_ | refine acode_region ?_ | refine acode_skip ?_ | refine then_n ?_ | refine block_n ?_)
            exact ⟨(i + 1, o2, m2), ⟨by simp; omega, ho2, hf2⟩, by simp; omega, ⟨rfl, rfl, rfl, rfl, rfl, rfl, trivial⟩, rfl⟩
      · have hge : i = r.right.length := by omega
        subst hge
        rw [List.drop_length] at hf2
        simp only [List.foldl_nil] at hf2
        rw [← hf2] at hfold
        repeat' (first | refine aops_end ?_ | refine aops_o rfl rfl rfl ?_ | refine aops_pbf tok rfl (by first | omega | decide) rfl rfl rfl ?_ | refine aops_p tok rfl rfl rfl rfl ?_ | refine acode_if rfl ?_ | refine acode_seq ?_ | refine acode_region ?_)
        refine acode_exit ?_
        repeat (first | refine exit_then ?_ | refine exit_here ?_ | refine then_n ?_ | refine block_n ?_)
        repeat (first | refine aops_end ?_ | refine aops_a tok rfl (by omega) (by omega) rfl rfl rfl ?_ | refine aops_p tok rfl rfl rfl rfl ?_ | refine acode_region ?_)
        exact ⟨(j + 1, o2, m2), ⟨by simp; omega, ho2, hfold⟩, by simp; omega, ⟨rfl, rfl, rfl, rfl, trivial⟩, rfl⟩
    · have hge : j = g.rules.length := by omega
      subst hge
      rw [List.drop_length] at hfold
      simp only [List.foldl_nil] at hfold
      refine acode_exit ?_
      repeat (first | refine exit_then ?_ | refine exit_here ?_ | refine then_n ?_ | refine block_n ?_)
      skip
      rw [← hfold] at hI hR2
      simp only at hI hR2
      refine ⟨(q', o1, m1), ⟨ho1, fun h => ?_, fun h => ?_⟩, ?_, ⟨rfl, rfl, rfl, trivial⟩, rfl⟩
      · simp only at h
        rw [if_pos h] at hI
        refine ⟨hI, ?_⟩
        rcases hR2 h with h3 | h3
        · cases h3
        · simp only; omega
      · simp only at h
        rw [h, if_neg (by simp)] at hI
        exact hI
      · simp only
        cases m1 <;> simp
end Go.Proofs.Ytbnhmioijeagiaa.Ab
/- Chapter 12's reference, shortest rows and what may end: the walk. No condition. -/
set_option linter.unusedVariables false
set_option linter.unusedSimpArgs false
namespace Go.Proofs.Ytbnhmioijeagiaa.Ab
attribute [local irreducible] thenA inBlockA ACode AOps put IntKind.wrap

def rowN (o : List Int) : List Int → Int → Int
  | [], v => v
  | s :: l, v => if v < 0 then v else if s < 0 then rowN o l (v + 1) else if o.getD s.toNat 0 < 0 then rowN o l (-1) else rowN o l (v + o.getD s.toNat 0)
theorem rowN_neg (o : List Int) (l : List Int) {v : Int} (h : v < 0) : rowN o l v = v := by cases l <;> simp [rowN, h]
def shortV (o : List Int) (r : Ru) : Int := if rowN o r.right 0 > 1000000000 then 1000000000 else rowN o r.right 0
def shortS (x : List Int × Bool) (r : Ru) : List Int × Bool := if 0 ≤ shortV x.1 r ∧ (x.1.getD r.left.toNat 0 < 0 ∨ shortV x.1 r < x.1.getD r.left.toNat 0) then (x.1.set r.left.toNat (shortV x.1 r), true) else x
def shortR (g : Gr) (o : List Int) : List Int × Bool := g.rules.foldl shortS (o, false)
def shortW (v : Int) : Nat := if v < 0 then 1000000001 else v.toNat
def shortM (o : List Int) : Nat := (o.map shortW).sum
def shortF (g : Gr) (n : Nat) : List Int := fixI (shortR g) (n * 1000000001 + 1) (List.replicate n (-1))
def shortP (n : Nat) (o : List Int) : Prop := o.length = n ∧ ∀ v ∈ o, -1 ≤ v ∧ v ≤ 1000000000
theorem shortM_set : ∀ {o : List Int} {i : Nat} {x y : Int}, o[i]? = some x → shortM (o.set i y) + shortW x = shortM o + shortW y
  | [], i, _, _, h => by simp at h
  | a :: o, 0, x, y, h => by simp at h; subst h; simp [shortM]; omega
  | a :: o, i + 1, x, y, h => by
    have := shortM_set (o := o) (i := i) (y := y) (by simpa using h)
    simp [shortM] at this ⊢; omega
theorem shortM_rep : ∀ n : Nat, shortM (List.replicate n (-1)) = n * 1000000001
  | 0 => rfl
  | n + 1 => by
    have := shortM_rep n
    rw [List.replicate_succ]
    show shortW (-1) + shortM (List.replicate n (-1)) = _
    rw [this]; show 1000000001 + _ = _; omega
theorem shortS_gw {n : Nat} (r : Ru) (hr : r.left.toNat < n) (x : List Int × Bool) : Gw (shortP n) shortM x (shortS x r) := by
  intro h
  unfold shortS
  split
  · rename_i hc
    obtain ⟨c0, c1⟩ := hc
    obtain ⟨hl, hv⟩ := h
    have hlt : r.left.toNat < x.1.length := by omega
    have hx : x.1[r.left.toNat]? = some (x.1.getD r.left.toNat 0) := by rw [List.getD_eq_getElem?_getD, List.getElem?_eq_getElem hlt]; rfl
    have hm := shortM_set (y := shortV x.1 r) hx
    have hle : shortV x.1 r ≤ 1000000000 := by unfold shortV; split <;> omega
    have hw : shortW (shortV x.1 r) < shortW (x.1.getD r.left.toNat 0) := by
      unfold shortW
      rw [if_neg (by omega)]
      split <;> omega
    refine ⟨⟨by simp [hl], fun v hv' => ?_⟩, by simp only; omega, fun _ => .inr (by simp only; omega)⟩
    rcases List.mem_or_eq_of_mem_set hv' with h2 | h2
    · exact hv v h2
    · subst h2; exact ⟨by omega, hle⟩
  · exact ⟨h, Nat.le_refl _, fun h => .inl h⟩
theorem shortR_gw {g : Gr} {n : Nat} (hw : ∀ r ∈ g.rules, r.left.toNat < n) (o : List Int) : Gw (shortP n) shortM (o, false) (shortR g o) :=
  gw_fold g.rules _ fun r hr x => shortS_gw r (hw r hr) x
theorem shortF_ok {g : Gr} {n : Nat} (hw : ∀ r ∈ g.rules, r.left.toNat < n) : shortP n (shortF g n) :=
  fixI_ok (p := shortP n) (fun x h => (shortR_gw hw x h).1) _ _ ⟨by simp, fun v hv => by rw [List.eq_of_mem_replicate hv]; omega⟩

set_option maxHeartbeats 8000000 in
theorem shortest_calls {g : Gr} {n : Nat} (hg : GrOk g) (h : (formF g).2 = 0) (hn : g.names = n) (hn2 : n ≤ 1000) (hw : ∀ r ∈ g.rules, isName g r.left) (hsy : ∀ r ∈ g.rules, ∀ s ∈ r.right, isSym g s) (h8 : ∀ r ∈ g.rules, r.right.length ≤ 8) (M : List Ob) :
    ACalls Try.prog 69 [grA g] M (fun r M' => r = .psl n (ints (shortF g n)) ∧ M' = M) := by
  have hrl := hg.rl
  have hlt : ∀ r ∈ g.rules, r.left.toNat < n := fun r hr => by have := hw r hr; unfold isName at this; omega
  refine acalls_of_code 105 Try.func69 rfl rfl rfl ?_
  repeat (first | refine acode_seq ?_ | refine acode_region ?_)
  refine aops_boxf rfl rfl rfl rfl rfl rfl rfl ?_
  repeat (first | refine aops_end ?_ | refine aops_p tok rfl rfl rfl rfl ?_ | refine acode_seq ?_ | refine acode_region ?_)
  refine aops_callx Try.func68 rfl rfl rfl rfl (formed_calls hg _) rfl rfl rfl ?_
  rw [decide_eq_true h]
  repeat' (first | refine aops_end ?_ | refine aops_p tok rfl rfl rfl rfl ?_ | refine acode_if rfl ?_ | refine acode_seq ?_ | refine acode_region ?_ | refine acode_skip ?_ | refine then_n ?_)
  refine aops_mk tok n rfl rfl rfl rfl hn rfl (by show _ * 8 ≤ _; omega) (by omega) rfl rfl rfl fun bo => ?_
  repeat (refine aops_p tok rfl rfl rfl rfl ?_)
  refine aops_end ?_
  refine acode_seq ?_
  refine acode_join [(1, .pp (grC g)), (3, .own (some bo) n n)] (⟨some bo, n * 1, ints (List.replicate n (-1))⟩ :: M) ?_ ?_
  · repeat (first | refine aops_end ?_ | refine aops_p tok rfl rfl rfl rfl ?_ | refine acode_seq ?_ | refine acode_region ?_ | refine acode_block ?_)
    refine acode_loopS (ι := Nat) (fun i => [(1, .pp (grC g)), (3, .own (some bo) n n), (4, .int .i64 i)]) (fun i => ⟨some bo, n * 1, ints (List.replicate i (-1) ++ List.replicate (n - i) 0)⟩ :: M) (fun i => n - i) (fun i => i ≤ n) 0 (Nat.zero_le _) ⟨rfl, rfl, rfl, trivial⟩ (by rw [List.replicate_zero, List.nil_append, Nat.sub_zero, ← ints_zeros]; rfl) ?_
    intro i hi
    repeat (first | refine aops_end ?_ | refine aops_p tok rfl rfl rfl rfl ?_ | refine acode_seq ?_ | refine acode_region ?_)
    refine acode_id rfl (fun e => ?_) (fun e => ?_)
    · have hil : i < n := by omega
      repeat (first | refine aops_p tok rfl rfl rfl rfl ?_ | refine acode_seq ?_ | refine acode_region ?_ | refine acode_block ?_ | refine acode_skip ?_ | refine then_n ?_)
      refine aops_ixo tok rfl rfl rfl rfl (by omega) (by omega) rfl rfl rfl ?_
      refine aops_sto tok (ints (List.replicate (i + 1) (-1) ++ List.replicate (n - (i + 1)) 0)) rfl rfl rfl rfl rfl (by rw [ints_len]; show (i : Int).toNat * 1 + 1 ≤ _; simp; omega) ?_ rfl rfl ?_
      · show List.take ((i : Int).toNat * 1) _ ++ ([A.int .i64 (-1)] ++ List.drop ((i : Int).toNat * 1 + 1) _) = _
        rw [Int.toNat_natCast, ints_set1 (by simp; omega)]
        congr 1
        obtain ⟨q, hq⟩ : ∃ q, n - i = q + 1 := ⟨n - i - 1, by omega⟩
        rw [hq, show n - (i + 1) = q by omega, List.set_append_right _ _ (by simp), List.length_replicate, Nat.sub_self, List.replicate_succ, List.set_cons_zero, List.replicate_succ', List.append_assoc]; rfl
      repeat (first | refine aops_end ?_ | refine aops_endb ?_ | refine aops_a tok rfl (by omega) (by omega) rfl rfl rfl ?_ | refine aops_p tok rfl rfl rfl rfl ?_ | refine acode_region ?_ | refine then_n ?_)
      exact ⟨i + 1, by omega, by omega, ⟨rfl, rfl, rfl, trivial⟩, rfl⟩
    · obtain rfl : i = n := by omega
      refine acode_exit ?_
      repeat (first | refine exit_then ?_ | refine exit_here ?_ | refine then_n ?_)
      exact ⟨⟨rfl, rfl, trivial⟩, by rw [Nat.sub_self, List.replicate_zero, List.append_nil]⟩
  have hR0 : fixI (shortR g) (n * 1000000001 + 1) (List.replicate n (-1)) = shortF g n := rfl
  have h0c : shortM (List.replicate n (-1)) < n * 1000000001 + 1 := by rw [shortM_rep]; omega
  have h0l : shortP n (List.replicate n (-1)) := ⟨by simp, fun v hv => by rw [List.eq_of_mem_replicate hv]; omega⟩
  generalize n * 1000000001 + 1 = K at *
  generalize shortF g n = fin at *
  generalize List.replicate n (-1) = o0 at *
  repeat (first | refine aops_end ?_ | refine aops_p tok rfl rfl rfl rfl ?_ | refine acode_seq ?_ | refine acode_region ?_ | refine acode_block ?_)
  refine acode_loopS (ι := Nat × List Int × Bool) (fun p => [(1, .pp (grC g)), (3, .own (some bo) n n), (5, .bool p.2.2)]) (fun p => ⟨some bo, n * 1, ints p.2.1⟩ :: M) (fun p => if p.2.2 then p.1 + 1 else 0) (fun p => shortP n p.2.1 ∧ (p.2.2 = true → fixI (shortR g) p.1 p.2.1 = fin ∧ shortM p.2.1 < p.1) ∧ (p.2.2 = false → p.2.1 = fin)) (K, o0, true) ⟨h0l, fun _ => ⟨hR0, h0c⟩, fun h => by cases h⟩ ⟨rfl, rfl, rfl, trivial⟩ rfl ?_
  rintro ⟨q, o, more⟩ ⟨hol, hm, hd⟩
  simp only at hol hm hd ⊢
  cases more with
  | false =>
    obtain rfl := hd rfl
    repeat' (first | refine aops_end ?_ | refine aops_p tok rfl rfl rfl rfl ?_ | refine acode_if rfl ?_ | refine acode_seq ?_ | refine acode_region ?_)
    refine acode_exit ?_
    repeat (first | refine exit_then ?_ | refine exit_here ?_ | refine then_n ?_)
    repeat (first | refine aops_end ?_ | refine aops_p tok rfl rfl rfl rfl ?_ | refine acode_seq ?_ | refine acode_region ?_)
    refine acode_pub0 2 1 rfl rfl (by rw [ints_len, hol.1, Nat.mul_one]) rfl ?_
    refine acode_ret ?_
    skip
    exact ⟨_, ⟨rfl, rfl⟩, resOf_tmp rfl⟩
  | true =>
    obtain ⟨hI, hcnt⟩ := hm rfl
    clear hm hd
    obtain ⟨q', rfl⟩ : ∃ q', q = q' + 1 := ⟨q - 1, by omega⟩
    obtain ⟨hRl, hR1, hR2⟩ := shortR_gw hlt o hol
    simp only [fixI] at hI
    simp only at hR1 hR2 hRl
    repeat' (first | refine aops_end ?_ | refine aops_p tok rfl rfl rfl rfl ?_ | refine acode_it rfl ?_ | refine acode_seq ?_ | refine acode_region ?_ | refine acode_block ?_ | refine acode_skip ?_ | refine then_n ?_)
    refine acode_loopS (ι := Nat × List Int × Bool) (fun p => [(1, .pp (grC g)), (3, .own (some bo) n n), (5, .bool p.2.2), (6, .int .i64 p.1)]) (fun p => ⟨some bo, n * 1, ints p.2.1⟩ :: M) (fun p => g.rules.length - p.1) (fun p => p.1 ≤ g.rules.length ∧ shortP n p.2.1 ∧ (g.rules.drop p.1).foldl shortS (p.2.1, p.2.2) = shortR g o) (0, o, false) ⟨Nat.zero_le _, hol, rfl⟩ ⟨rfl, rfl, rfl, rfl, trivial⟩ rfl ?_
    rintro ⟨j, o1, m1⟩ ⟨hj, ho1, hfold⟩
    simp only at hj ho1 hfold ⊢
    repeat (first | refine aops_end ?_ | refine aops_p tok rfl rfl rfl rfl ?_ | refine acode_seq ?_ | refine acode_region ?_)
    refine acode_id rfl (fun e => ?_) (fun e => ?_)
    · have hjl : j < g.rules.length := by omega
      obtain ⟨r, hr⟩ : ∃ r, g.rules[j]? = some r := ⟨g.rules[j], List.getElem?_eq_getElem hjl⟩
      have hrm := List.mem_of_getElem? hr
      have hdr : g.rules.drop j = r :: g.rules.drop (j + 1) := by
        rw [List.drop_eq_getElem_cons hjl]
        rw [List.getElem?_eq_getElem hjl] at hr
        rw [Option.some.inj hr]
      rw [hdr, List.foldl_cons] at hfold
      obtain ⟨hr0, hr1⟩ := hw r hrm
      have hrr := h8 r hrm
      have hl1 := hlt r hrm
      obtain ⟨ho1l, ho1v⟩ := id ho1
      obtain ⟨x, hx⟩ : ∃ x, o1[r.left.toNat]? = some x := ⟨o1[r.left.toNat]'(by omega), List.getElem?_eq_getElem (by omega)⟩
      have hgd : o1.getD r.left.toNat 0 = x := by rw [List.getD_eq_getElem?_getD, hx]; rfl
      have hxv := ho1v x (List.mem_of_getElem? hx)
      repeat (first | refine aops_p tok rfl rfl rfl rfl ?_ | refine acode_seq ?_ | refine acode_region ?_ | refine acode_block ?_ | refine acode_skip ?_ | refine then_n ?_)
      refine aops_ix tok (ruC r) rfl rfl rfl rfl (by omega) (by omega) (by simp [ruC]) (encs_at (e := ruC) (s := 3) (fun _ => rfl) (i := (j : Int).toNat) (by simpa using hr)) rfl rfl rfl ?_
      repeat (refine aops_p tok rfl rfl rfl rfl ?_)
      refine aops_alloc tok rfl rfl rfl rfl rfl rfl fun ba => ?_
      refine aops_stn tok rfl rfl rfl rfl rfl rfl rfl rfl rfl ?_
      refine aops_pubref0 7 rfl ?_
      skip
      refine aops_end ?_
      refine acode_seq ?_
      refine acode_region ?_
      repeat (refine aops_p tok rfl rfl rfl rfl ?_)
      refine aops_end ?_
      refine acode_seq ?_
      refine acode_join [(1, .pp (grC g)), (3, .own (some bo) n n), (5, .bool m1), (6, .int .i64 j), (7, .pp (ruC r)), (8, .int .i64 (rowN o1 r.right 0))] (⟨some bo, n * 1, ints o1⟩ :: M) ?_ ?_
      · repeat (first | refine aops_end ?_ | refine aops_p tok rfl rfl rfl rfl ?_ | refine acode_seq ?_ | refine acode_region ?_ | refine acode_block ?_)
        refine acode_loopS (ι := Nat × Int) (fun p => [(1, .pp (grC g)), (3, .own (some bo) n n), (5, .bool m1), (6, .int .i64 j), (7, .pp (ruC r)), (8, .int .i64 p.2), (9, .int .i64 p.1)]) (fun _ => ⟨some bo, n * 1, ints o1⟩ :: M) (fun p => r.right.length - p.1) (fun p => p.1 ≤ r.right.length ∧ -1 ≤ p.2 ∧ p.2 ≤ p.1 * 1000000000 ∧ rowN o1 (r.right.drop p.1) p.2 = rowN o1 r.right 0) (0, 0) ⟨Nat.zero_le _, by simp, by simp, rfl⟩ ⟨rfl, rfl, rfl, rfl, rfl, rfl, rfl, trivial⟩ rfl ?_
        rintro ⟨k, v⟩ ⟨hk, hv0, hv1, hf⟩
        simp only at hk hv0 hv1 hf ⊢
        by_cases hkl : k < r.right.length
        · by_cases hvn : v < 0
          · rw [rowN_neg _ _ hvn] at hf
            repeat' (first | refine aops_end ?_ | refine aops_pbt tok rfl (by first | omega | decide) rfl rfl rfl ?_ | refine aops_pbf tok rfl (by first | omega | decide) rfl rfl rfl ?_ | refine aops_p tok rfl rfl rfl rfl ?_ | refine acode_if rfl ?_ | refine acode_seq ?_ | refine acode_region ?_)
            refine acode_exit ?_
            repeat (first | refine exit_then ?_ | refine exit_here ?_ | refine then_n ?_)
            exact ⟨⟨rfl, rfl, rfl, rfl, rfl, by rw [hf]; rfl, trivial⟩, rfl⟩
          · obtain ⟨s, hs⟩ : ∃ s, r.right[k]? = some s := ⟨r.right[k], List.getElem?_eq_getElem hkl⟩
            have hds : r.right.drop k = s :: r.right.drop (k + 1) := by
              rw [List.drop_eq_getElem_cons hkl]
              rw [List.getElem?_eq_getElem hkl] at hs
              rw [Option.some.inj hs]
            have hss := hsy r hrm s (List.mem_of_getElem? hs)
            rw [hds, rowN, if_neg hvn] at hf
            repeat' (first | refine aops_end ?_ | refine aops_pbt tok rfl (by first | omega | decide) rfl rfl rfl ?_ | refine aops_p tok rfl rfl rfl rfl ?_ | refine acode_it rfl ?_ | refine acode_seq ?_ | refine acode_region ?_ | refine acode_block ?_ | refine acode_skip ?_ | refine then_n ?_)
            refine aops_ix tok [A.int .i64 s] rfl rfl rfl rfl (by omega) (by omega) (by simp) (ints_at (j := k) (by simpa using hs)) rfl rfl rfl ?_
            by_cases hs0 : s < 0
            · rw [if_pos hs0] at hf
              repeat' (first | refine aops_end ?_ | refine aops_endb ?_ | refine aops_a tok rfl (by omega) (by omega) rfl rfl rfl ?_ | refine aops_pbt tok rfl (by first | omega | decide) rfl rfl rfl ?_ | refine aops_p tok rfl rfl rfl rfl ?_ | refine acode_it rfl ?_ | refine acode_region ?_ | refine then_n ?_ | refine block_n ?_)
              exact ⟨(k + 1, v + 1), ⟨by simp; omega, by simp; omega, by simp; omega, hf⟩, by simp; omega, ⟨rfl, rfl, rfl, rfl, rfl, rfl, rfl, trivial⟩, rfl⟩
            · rw [if_neg hs0] at hf
              have hname : isName g s := hss.resolve_left (fun h1 => by unfold isKind at h1; omega)
              obtain ⟨n0, n1⟩ := id hname
              obtain ⟨z, hz⟩ : ∃ z, o1[s.toNat]? = some z := ⟨o1[s.toNat]'(by omega), List.getElem?_eq_getElem (by omega)⟩
              have hzd : o1.getD s.toNat 0 = z := by rw [List.getD_eq_getElem?_getD, hz]; rfl
              have hzv := ho1v z (List.mem_of_getElem? hz)
              rw [hzd] at hf
              repeat' (first | refine aops_end ?_ | refine aops_pbf tok rfl (by first | omega | decide) rfl rfl rfl ?_ | refine aops_p tok rfl rfl rfl rfl ?_ | refine acode_if rfl ?_ | refine acode_seq ?_ | refine acode_region ?_)
              refine aops_ix tok [A.int .i64 s] rfl rfl rfl rfl (by omega) (by omega) (by simp) (ints_at (j := k) (by simpa using hs)) rfl rfl rfl ?_
              repeat (refine aops_p tok rfl rfl rfl rfl ?_)
              refine aops_ixo tok rfl rfl rfl rfl n0 (by omega) rfl rfl rfl ?_
              refine aops_ld tok 0 (y := .int .i64 z) rfl rfl rfl rfl (by rw [headed_eq, Nat.mul_one]; exact ints_get hz) rfl rfl rfl ?_
              by_cases hz0 : z < 0
              · rw [if_pos hz0] at hf
                repeat' (first | refine aops_end ?_ | refine aops_endb ?_ | refine aops_a tok rfl (by omega) (by omega) rfl rfl rfl ?_ | refine aops_pbt tok rfl (by first | omega | decide) rfl rfl rfl ?_ | refine aops_p tok rfl rfl rfl rfl ?_ | refine acode_it rfl ?_ | refine acode_region ?_ | refine then_n ?_ | refine block_n ?_)
                exact ⟨(k + 1, -1), ⟨by simp; omega, by simp, by simp; omega, hf⟩, by simp; omega, ⟨rfl, rfl, rfl, rfl, rfl, rfl, rfl, trivial⟩, rfl⟩
              · rw [if_neg hz0] at hf
                repeat' (first | refine aops_end ?_ | refine aops_pbf tok rfl (by first | omega | decide) rfl rfl rfl ?_ | refine aops_p tok rfl rfl rfl rfl ?_ | refine acode_if rfl ?_ | refine acode_region ?_)
                refine aops_ix tok [A.int .i64 s] rfl rfl rfl rfl (by omega) (by omega) (by simp) (ints_at (j := k) (by simpa using hs)) rfl rfl rfl ?_
                repeat (refine aops_p tok rfl rfl rfl rfl ?_)
                refine aops_ixo tok rfl rfl rfl rfl n0 (by omega) rfl rfl rfl ?_
                refine aops_ld tok 0 (y := .int .i64 z) rfl rfl rfl rfl (by rw [headed_eq, Nat.mul_one]; exact ints_get hz) rfl rfl rfl ?_
                repeat (first | refine aops_end ?_ | refine aops_endb ?_ | refine aops_a tok rfl (by omega) (by omega) rfl rfl rfl ?_ | refine aops_p tok rfl rfl rfl rfl ?_ | refine acode_region ?_ | refine then_n ?_ | refine block_n ?_)
                exact ⟨(k + 1, v + z), ⟨by simp; omega, by simp; omega, by simp; omega, hf⟩, by simp; omega, ⟨rfl, rfl, rfl, rfl, rfl, rfl, rfl, trivial⟩, rfl⟩
        · obtain rfl : k = r.right.length := by omega
          rw [List.drop_length, rowN] at hf
          repeat' (first | refine aops_end ?_ | refine aops_o rfl rfl rfl ?_ | refine aops_pbf tok rfl (by first | omega | decide) rfl rfl rfl ?_ | refine aops_p tok rfl rfl rfl rfl ?_ | refine acode_if rfl ?_ | refine acode_seq ?_ | refine acode_region ?_)
          refine acode_exit ?_
          repeat (first | refine exit_then ?_ | refine exit_here ?_ | refine then_n ?_)
          exact ⟨⟨rfl, rfl, rfl, rfl, rfl, by rw [hf]; rfl, trivial⟩, rfl⟩
      refine acode_seq ?_
      refine acode_join [(1, .pp (grC g)), (3, .own (some bo) n n), (5, .bool m1), (6, .int .i64 j), (7, .pp (ruC r)), (8, .int .i64 (shortV o1 r))] (⟨some bo, n * 1, ints o1⟩ :: M) ?_ ?_
      · by_cases hbig : rowN o1 r.right 0 > 1000000000
        · repeat' (first | refine aops_end ?_ | refine aops_pbt tok rfl (by first | omega | decide) rfl rfl rfl ?_ | refine aops_p tok rfl rfl rfl rfl ?_ | refine acode_it rfl ?_ | refine acode_seq ?_ | refine acode_region ?_)
          exact ⟨⟨rfl, rfl, rfl, rfl, rfl, by unfold shortV; rw [if_pos hbig]; rfl, trivial⟩, rfl⟩
        · repeat' (first | refine aops_end ?_ | refine aops_pbf tok rfl (by first | omega | decide) rfl rfl rfl ?_ | refine aops_p tok rfl rfl rfl rfl ?_ | refine acode_if rfl ?_ | refine acode_seq ?_ | refine acode_region ?_ | refine acode_skip ?_ | refine then_n ?_)
          exact ⟨⟨rfl, rfl, rfl, rfl, rfl, by unfold shortV; rw [if_neg hbig]; rfl, trivial⟩, rfl⟩
      by_cases hc : 0 ≤ shortV o1 r ∧ (x < 0 ∨ shortV o1 r < x)
      · have hst : shortS (o1, m1) r = (o1.set r.left.toNat (shortV o1 r), true) := by unfold shortS; rw [if_pos (by rw [hgd]; exact hc)]
        have hgw := (shortS_gw r hl1 (o1, m1) ho1).1
        rw [hst] at hfold hgw
        refine acode_seq ?_
        refine acode_join [(1, .pp (grC g)), (3, .own (some bo) n n), (5, .bool m1), (6, .int .i64 j), (7, .pp (ruC r)), (8, .int .i64 (shortV o1 r)), (98, .bool true)] (⟨some bo, n * 1, ints o1⟩ :: M) ?_ ?_
        · generalize shortV o1 r = v at *
          repeat' (first | refine aops_pbt tok rfl (by first | omega | decide) rfl rfl rfl ?_ | refine aops_p tok rfl rfl rfl rfl ?_ | refine acode_region ?_)
          refine aops_ixo tok rfl rfl rfl rfl hr0 (by omega) rfl rfl rfl ?_
          refine aops_ld tok 0 (y := .int .i64 x) rfl rfl rfl rfl (by rw [headed_eq, Nat.mul_one]; exact ints_get hx) rfl rfl rfl ?_
          by_cases hx0 : x < 0
          · repeat' (first | refine aops_end ?_ | refine aops_o rfl rfl rfl ?_ | refine aops_pbt tok rfl (by first | omega | decide) rfl rfl rfl ?_ | refine aops_p tok rfl rfl rfl rfl ?_)
            exact ⟨⟨rfl, rfl, rfl, rfl, rfl, rfl, rfl, trivial⟩, rfl⟩
          · repeat' (first | refine aops_pbf tok rfl (by first | omega | decide) rfl rfl rfl ?_ | refine aops_p tok rfl rfl rfl rfl ?_)
            refine aops_ixo tok rfl rfl rfl rfl hr0 (by omega) rfl rfl rfl ?_
            refine aops_ld tok 0 (y := .int .i64 x) rfl rfl rfl rfl (by rw [headed_eq, Nat.mul_one]; exact ints_get hx) rfl rfl rfl ?_
            repeat' (first | refine aops_end ?_ | refine aops_pbt tok rfl (by first | omega | decide) rfl rfl rfl ?_ | refine aops_p tok rfl rfl rfl rfl ?_)
            exact ⟨⟨rfl, rfl, rfl, rfl, rfl, rfl, rfl, trivial⟩, rfl⟩
        · repeat' (first | refine aops_p tok rfl rfl rfl rfl ?_ | refine acode_it rfl ?_ | refine acode_seq ?_ | refine acode_region ?_)
          refine aops_ixo tok rfl rfl rfl rfl hr0 (by omega) rfl rfl rfl ?_
          refine aops_sto tok (ints (o1.set r.left.toNat (shortV o1 r))) rfl rfl rfl rfl rfl (by rw [ints_len, ho1l]; show r.left.toNat * 1 + 1 ≤ _; omega) (ints_set1 (by omega) _) rfl rfl ?_
          repeat (first | refine aops_end ?_ | refine aops_endb ?_ | refine aops_a tok rfl (by omega) (by omega) rfl rfl rfl ?_ | refine aops_p tok rfl rfl rfl rfl ?_ | refine acode_region ?_ | refine then_n ?_)
          exact ⟨(j + 1, o1.set r.left.toNat (shortV o1 r), true), ⟨by simp; omega, hgw, hfold⟩, by simp; omega, ⟨rfl, rfl, rfl, rfl, trivial⟩, rfl⟩
      · have hst : shortS (o1, m1) r = (o1, m1) := by unfold shortS; rw [if_neg (by rw [hgd]; exact hc)]
        rw [hst] at hfold
        refine acode_seq ?_
        refine acode_join [(1, .pp (grC g)), (3, .own (some bo) n n), (5, .bool m1), (6, .int .i64 j), (7, .pp (ruC r)), (8, .int .i64 (shortV o1 r)), (98, .bool false)] (⟨some bo, n * 1, ints o1⟩ :: M) ?_ ?_
        · generalize shortV o1 r = v at *
          by_cases hv0 : 0 ≤ v
          · repeat' (first | refine aops_pbt tok rfl (by first | omega | decide) rfl rfl rfl ?_ | refine aops_p tok rfl rfl rfl rfl ?_ | refine acode_region ?_)
            refine aops_ixo tok rfl rfl rfl rfl hr0 (by omega) rfl rfl rfl ?_
            refine aops_ld tok 0 (y := .int .i64 x) rfl rfl rfl rfl (by rw [headed_eq, Nat.mul_one]; exact ints_get hx) rfl rfl rfl ?_
            repeat' (first | refine aops_pbf tok rfl (by first | omega | decide) rfl rfl rfl ?_ | refine aops_p tok rfl rfl rfl rfl ?_)
            refine aops_ixo tok rfl rfl rfl rfl hr0 (by omega) rfl rfl rfl ?_
            refine aops_ld tok 0 (y := .int .i64 x) rfl rfl rfl rfl (by rw [headed_eq, Nat.mul_one]; exact ints_get hx) rfl rfl rfl ?_
            repeat' (first | refine aops_end ?_ | refine aops_pbf tok rfl (by first | omega | decide) rfl rfl rfl ?_ | refine aops_p tok rfl rfl rfl rfl ?_)
            exact ⟨⟨rfl, rfl, rfl, rfl, rfl, rfl, rfl, trivial⟩, rfl⟩
          · repeat' (first | refine aops_end ?_ | refine aops_o rfl rfl rfl ?_ | refine aops_pbf tok rfl (by first | omega | decide) rfl rfl rfl ?_ | refine aops_p tok rfl rfl rfl rfl ?_ | refine acode_region ?_)
            exact ⟨⟨rfl, rfl, rfl, rfl, rfl, rfl, rfl, trivial⟩, rfl⟩
        · repeat' (first | refine aops_end ?_ | refine aops_a tok rfl (by omega) (by omega) rfl rfl rfl ?_ | refine aops_p tok rfl rfl rfl rfl ?_ | refine acode_if rfl ?_ | refine acode_region ?_ | refine acode_skip ?_ | refine then_n ?_ | refine block_n ?_)
          exact ⟨(j + 1, o1, m1), ⟨by simp; omega, ho1, hfold⟩, by simp; omega, ⟨rfl, rfl, rfl, rfl, trivial⟩, rfl⟩
    · have hge : j = g.rules.length := by omega
      subst hge
      rw [List.drop_length] at hfold
      simp only [List.foldl_nil] at hfold
      refine acode_exit ?_
      repeat (first | refine exit_then ?_ | refine exit_here ?_ | refine then_n ?_ | refine block_n ?_)
      skip
      rw [← hfold] at hI hR2
      simp only at hI hR2
      refine ⟨(q', o1, m1), ⟨ho1, fun h => ?_, fun h => ?_⟩, ?_, ⟨rfl, rfl, rfl, trivial⟩, rfl⟩
      · simp only at h
        rw [if_pos h] at hI
        refine ⟨hI, ?_⟩
        rcases hR2 h with h3 | h3
        · cases h3
        · simp only; omega
      · simp only at h
        rw [h, if_neg (by simp)] at hI
        exact hI
      · simp only
        cases m1 <;> simp

def prodF (g : Gr) (n : Nat) : List Bool := (shortF g n).map fun v => decide (0 ≤ v)
set_option maxHeartbeats 4000000 in
theorem productive_calls {g : Gr} {n : Nat} (hg : GrOk g) (h : (formF g).2 = 0) (hn : g.names = n) (hn2 : n ≤ 1000) (hw : ∀ r ∈ g.rules, isName g r.left) (hsy : ∀ r ∈ g.rules, ∀ s ∈ r.right, isSym g s) (h8 : ∀ r ∈ g.rules, r.right.length ≤ 8) (M : List Ob) :
    ACalls Try.prog 31 [grA g] M (fun r M' => r = .psl n (bools (prodF g n)) ∧ M' = M) := by
  have hlt : ∀ r ∈ g.rules, r.left.toNat < n := fun r hr => by have := hw r hr; unfold isName at this; omega
  refine acalls_of_code 26 Try.func31 rfl rfl rfl ?_
  repeat (first | refine acode_seq ?_ | refine acode_region ?_)
  refine aops_boxf rfl rfl rfl rfl rfl rfl rfl ?_
  repeat (first | refine aops_end ?_ | refine aops_p tok rfl rfl rfl rfl ?_ | refine acode_seq ?_ | refine acode_region ?_)
  refine aops_callx Try.func68 rfl rfl rfl rfl (formed_calls hg _) rfl rfl rfl ?_
  rw [decide_eq_true h]
  repeat' (first | refine aops_end ?_ | refine aops_p tok rfl rfl rfl rfl ?_ | refine acode_if rfl ?_ | refine acode_seq ?_ | refine acode_region ?_ | refine acode_skip ?_ | refine then_n ?_)
  refine aops_callx Try.func69 rfl rfl rfl rfl (shortest_calls hg h hn hn2 hw hsy h8 _) rfl rfl rfl ?_
  have hF : prodF g n = (shortF g n).map fun v => decide (0 ≤ v) := rfl
  obtain ⟨hl, _⟩ := shortF_ok hlt
  generalize prodF g n = P at *
  generalize shortF g n = o at *
  subst hF
  repeat (first | refine aops_end ?_ | refine aops_p tok rfl rfl rfl rfl ?_ | refine acode_seq ?_ | refine acode_region ?_ | refine acode_block ?_)
  refine acode_adopt 4 1 rfl ?_
  refine acode_loopS (ι := Nat × Option Nat × Nat) (fun p => [(3, .psl n (ints o)), (4, .own p.2.1 p.1 p.2.2), (5, .int .i64 p.1)]) (fun p => ⟨p.2.1, p.2.2 * 1, bools ((o.take p.1).map fun v => decide (0 ≤ v))⟩ :: M) (fun p => n - p.1) (fun p => p.1 ≤ n) (0, none, 0) (Nat.zero_le _) ⟨rfl, rfl, rfl, trivial⟩ rfl ?_
  rintro ⟨i, ob, cap⟩ hi
  simp only at hi ⊢
  repeat (first | refine aops_end ?_ | refine aops_p tok rfl rfl rfl rfl ?_ | refine acode_seq ?_ | refine acode_region ?_)
  refine acode_id rfl (fun e => ?_) (fun e => ?_)
  · have hil : i < n := by omega
    obtain ⟨x, hx⟩ : ∃ x, o[i]? = some x := ⟨o[i]'(by omega), List.getElem?_eq_getElem (by omega)⟩
    have hts : (o.take (i + 1)).map (fun v => decide (0 ≤ v)) = (o.take i).map (fun v => decide (0 ≤ v)) ++ [decide (0 ≤ x)] := by rw [List.take_add_one, hx]; simp
    repeat (first | refine aops_p tok rfl rfl rfl rfl ?_ | refine acode_seq ?_ | refine acode_region ?_ | refine acode_block ?_ | refine acode_skip ?_ | refine then_n ?_)
    refine aops_ix tok [A.int .i64 x] rfl rfl rfl rfl (by omega) (by omega) (by simp) (ints_at (j := i) (by simpa using hx)) rfl rfl rfl ?_
    repeat (refine aops_p tok rfl rfl rfl rfl ?_)
    refine aops_litn tok rfl rfl rfl rfl rfl rfl rfl ?_
    refine aops_append tok 0 (m := 1) rfl rfl rfl (.inl rfl) rfl rfl (by rw [bools_len]; simp; omega) rfl rfl rfl (by show _ * 1 ≤ _; omega) (by omega) rfl rfl fun ob' cap' => ?_
    repeat (first | refine aops_put rfl ?_ | refine aops_end ?_ | refine aops_endb ?_ | refine aops_a tok rfl (by omega) (by omega) rfl rfl rfl ?_ | refine aops_p tok rfl rfl rfl rfl ?_ | refine acode_region ?_ | refine then_n ?_)
    exact ⟨(i + 1, ob', cap'), by simp; omega, by simp; omega, ⟨rfl, rfl, rfl, trivial⟩, by simp only [hts, bools, List.map_append]; rfl⟩
  · have hge : i = n := by omega
    subst hge
    refine acode_exit ?_
    repeat (first | refine exit_then ?_ | refine exit_here ?_ | refine then_n ?_)
    repeat (first | refine aops_end ?_ | refine aops_p tok rfl rfl rfl rfl ?_ | refine acode_seq ?_ | refine acode_region ?_)
    refine acode_pub0 2 1 rfl rfl (by rw [bools_len]; simp; omega) rfl ?_
    refine acode_ret ?_
    skip
    rw [List.take_of_length_le (by omega)]
    exact ⟨_, ⟨rfl, rfl⟩, resOf_tmp rfl⟩
end Go.Proofs.Ytbnhmioijeagiaa.Ab
/- Rows of truths, each an object of its own: pulled out of Set2, Set4, Set9 (printed by genchk.py). No condition. -/
set_option linter.unusedVariables false
set_option linter.unusedSimpArgs false
namespace Go.Proofs.Ytbnhmioijeagiaa.Ab
attribute [local irreducible] thenA inBlockA ACode AOps put IntKind.wrap

theorem bools_at {l : List Bool} {j : Int} {x : Bool} (h : l[j.toNat]? = some x) : [A.bool x] <+: (bools l).drop (j.toNat * 1) := by
  rw [Nat.mul_one]
  have hlt : j.toNat < l.length := (List.getElem?_eq_some_iff.1 h).1
  rw [List.drop_eq_getElem_cons (by simpa [bools] using hlt)]
  have h2 : (bools l)[j.toNat]? = some (.bool x) := by simp [bools, h]
  rw [List.getElem?_eq_some_iff] at h2
  obtain ⟨h3, h4⟩ := h2
  rw [h4]
  exact ⟨(bools l).drop (j.toNat + 1), rfl⟩
theorem getD_at {l : List Bool} {i : Nat} (h : i < l.length) : l[i]? = some (l.getD i false) := by
  rw [List.getD_eq_getElem?_getD, List.getElem?_eq_getElem h]; rfl
def zeroB (k : Nat) : List Bool := List.replicate (k + 1) false
theorem zeroB_len (k : Nat) : (zeroB k).length = k + 1 := by simp [zeroB]
def ownsA (k : Nat) (bs : List Nat) : List A := bs.map fun b => .own (some b) (k + 1) (k + 1)
def obsZ (k : Nat) (bs : List Nat) (F : List (List Bool)) : List Ob := List.zipWith (fun b x => ⟨some b, (k + 1) * 1, bools x⟩) bs F
theorem ownsA_len (k : Nat) (bs : List Nat) : (ownsA k bs).length = bs.length := by simp [ownsA]
theorem ownsA_get {k : Nat} {bs : List Nat} {s b : Nat} (h : bs[s]? = some b) : (ownsA k bs)[s * 1]? = some (A.own (some b) (k + 1) (k + 1)) := by rw [Nat.mul_one]; simp [ownsA, h]
theorem obsZ_get {k : Nat} {bs : List Nat} {F : List (List Bool)} {s b : Nat} {x : List Bool} (hb : bs[s]? = some b) (hx : F[s]? = some x) : (obsZ k bs F)[s]? = some ⟨some b, (k + 1) * 1, bools x⟩ := by simp [obsZ, List.getElem?_zipWith, hb, hx]
theorem obsZ_set {k : Nat} : ∀ {bs : List Nat} {F : List (List Bool)} {s b : Nat} (y : List Bool), bs[s]? = some b → (obsZ k bs F).set s ⟨some b, (k + 1) * 1, bools y⟩ = obsZ k bs (F.set s y)
  | [], F, s, b, y, h => by simp at h
  | c :: bs, [], s, b, y, h => by simp [obsZ]
  | c :: bs, z :: F, 0, b, y, h => by simp at h; subst h; rfl
  | c :: bs, z :: F, s + 1, b, y, h => by
    have := obsZ_set (k := k) (F := F) y (by simpa using h : bs[s]? = some b)
    simp only [obsZ, List.zipWith_cons_cons, List.set_cons_succ] at this ⊢
    rw [this]
theorem obsZ_app {k : Nat} {bs cs : List Nat} {F H : List (List Bool)} (h : bs.length = F.length) : obsZ k (bs ++ cs) (F ++ H) = obsZ k bs F ++ obsZ k cs H := by
  unfold obsZ; rw [List.zipWith_append h]
theorem looseL_bools : ∀ l : List Bool, looseL (bools l) = true
  | [] => rfl
  | x :: l => by simp only [bools, List.map_cons, looseL, looseA, Bool.true_and]; exact looseL_bools l
def zeroF (n k : Nat) : List (List Bool) := List.replicate n (zeroB k)
theorem zeroF_all {n k : Nat} : ∀ x ∈ zeroF n k, x.length = k + 1 := fun x hx => by rw [List.eq_of_mem_replicate hx]; exact zeroB_len k
theorem zeroF_len (n k : Nat) : (zeroF n k).length = n := by simp [zeroF]
def FOk (n k : Nat) (F : List (List Bool)) : Prop := F.length = n ∧ ∀ x ∈ F, x.length = k + 1
theorem nullI_len (g : Gr) : ∀ (q : Nat) (o : List Bool), (nullI g q o).length = o.length
  | 0, o => rfl
  | q + 1, o => by
    rw [nullI]
    split
    · rw [nullI_len g q]; unfold nullR; rw [nullL_len]
    · unfold nullR; rw [nullL_len]
theorem nullF_len (g : Gr) (n : Nat) : (nullF g n).length = n := by unfold nullF; rw [nullI_len]; simp
theorem set_self {o : List Bool} {q : Nat} {x : Bool} (h : o[q]? = some x) : o.set q x = o := by
  obtain ⟨h1, rfl⟩ := List.getElem?_eq_some_iff.1 h
  exact List.set_getElem_self h1
theorem fill_next {k n i b2 : Nat} {bs : List Nat} (hbs : bs.length = i) (hi : i < n) : (ownsA k bs ++ List.replicate (n - i) A.nils).take (i * 1) ++ ([A.own (some b2) (k + 1) (k + 1)] ++ (ownsA k bs ++ List.replicate (n - i) A.nils).drop (i * 1 + 1)) = ownsA k (bs ++ [b2]) ++ List.replicate (n - (i + 1)) A.nils := by
  have hl : (ownsA k bs).length = i := by rw [ownsA_len, hbs]
  rw [Nat.mul_one, List.take_append_of_le_length (by omega), List.take_of_length_le (by omega), List.drop_append, List.drop_of_length_le (by omega), hl, show i + 1 - i = 1 by omega, List.drop_replicate, show n - i - 1 = n - (i + 1) by omega]
  simp [ownsA]
theorem obs_at {k s b : Nat} {o0 : Ob} {bs : List Nat} {F : List (List Bool)} {x : List Bool} {M : List Ob} (hb : bs[s]? = some b) (hx : F[s]? = some x) : (o0 :: (obsZ k bs F ++ M))[s + 1]? = some ⟨some b, (k + 1) * 1, bools x⟩ := by
  have hg := obsZ_get (k := k) hb hx
  rw [List.getElem?_cons_succ, List.getElem?_append_left (List.getElem?_eq_some_iff.1 hg).1]; exact hg
theorem obs_set {k s b : Nat} {o0 : Ob} {bs : List Nat} {F : List (List Bool)} {x : List Bool} {M : List Ob} (hb : bs[s]? = some b) (hx : F[s]? = some x) (y : List Bool) : (o0 :: (obsZ k bs F ++ M)).set (s + 1) ⟨some b, (k + 1) * 1, bools y⟩ = o0 :: (obsZ k bs (F.set s y) ++ M) := by
  have hg := obsZ_get (k := k) hb hx
  rw [List.set_cons_succ, List.set_append_left _ _ (List.getElem?_eq_some_iff.1 hg).1, obsZ_set y hb]
theorem set_at {F : List (List Bool)} {s : Nat} {x : List Bool} (hx : F[s]? = some x) : F.set s x = F := by
  obtain ⟨h1, rfl⟩ := List.getElem?_eq_some_iff.1 hx
  exact List.set_getElem_self h1
end Go.Proofs.Ytbnhmioijeagiaa.Ab
/- Chapter 13's reference, names that come back to themselves: the walk. No condition. -/
set_option linter.unusedVariables false
set_option linter.unusedSimpArgs false
namespace Go.Proofs.Ytbnhmioijeagiaa.Ab
attribute [local irreducible] thenA inBlockA ACode AOps put IntKind.wrap

def getM (F : List (List Bool)) (i j : Nat) : Bool := (F.getD i []).getD j false
def setM (F : List (List Bool)) (i j : Nat) (v : Bool) : List (List Bool) := F.set i ((F.getD i []).set j v)
def aloneT (null : List Bool) (l : List Int) (k j : Nat) : Bool := decide (0 ≤ l.getD k 0) && (List.range j).all fun q => (q == k) || (decide (0 ≤ l.getD q 0) && null.getD (l.getD q 0).toNat false)
def edgeS (null : List Bool) (r : Ru) (F : List (List Bool)) (k : Nat) : List (List Bool) := if aloneT null r.right k r.right.length then setM F r.left.toNat (r.right.getD k 0).toNat true else F
def edgeR (null : List Bool) (F : List (List Bool)) (r : Ru) : List (List Bool) := (List.range r.right.length).foldl (edgeS null r) F
def closS (k i : Nat) (F : List (List Bool)) (j : Nat) : List (List Bool) := setM F i j (getM F i j || getM F i k && getM F k j)
def closR (n k : Nat) (F : List (List Bool)) (i : Nat) : List (List Bool) := (List.range n).foldl (closS k i) F
def closK (n : Nat) (F : List (List Bool)) (k : Nat) : List (List Bool) := (List.range n).foldl (closR n k) F
def closF (n : Nat) (F : List (List Bool)) : List (List Bool) := (List.range n).foldl (closK n) F
def edgeF (g : Gr) (n : Nat) : List (List Bool) := g.rules.foldl (edgeR (nullF g n)) (zeroF n (n - 1))
def diagT (F : List (List Bool)) (i : Nat) : List Bool := (List.range i).map fun i => getM F i i
def cycF (g : Gr) (n : Nat) : List Bool := diagT (closF n (edgeF g n)) n

theorem range_drop {n i : Nat} (h : i < n) : (List.range n).drop i = i :: (List.range n).drop (i + 1) := by
  rw [List.drop_eq_getElem_cons (by simpa using h)]; simp
theorem range_dropn (n : Nat) : (List.range n).drop n = [] := List.drop_of_length_le (by simp)
theorem aloneT_succ (null : List Bool) (l : List Int) (k j : Nat) : aloneT null l k (j + 1) = (aloneT null l k j && ((j == k) || (decide (0 ≤ l.getD j 0) && null.getD (l.getD j 0).toNat false))) := by
  unfold aloneT; rw [List.range_succ, List.all_append]; simp [Bool.and_assoc]
theorem aloneT_mono {null : List Bool} {l : List Int} {k j : Nat} (h : aloneT null l k j = false) (i : Nat) : aloneT null l k (j + i) = false := by
  induction i with
  | zero => exact h
  | succ i ih => rw [← Nat.add_assoc, aloneT_succ, ih]; rfl
theorem fok_at {n k : Nat} {F : List (List Bool)} (h : FOk n k F) {i : Nat} (hi : i < n) : ∃ x, F[i]? = some x ∧ x.length = k + 1 := by
  have : i < F.length := by rw [h.1]; exact hi
  exact ⟨F[i], List.getElem?_eq_getElem this, h.2 _ (List.getElem_mem this)⟩
theorem setM_ok {n k : Nat} {F : List (List Bool)} (h : FOk n k F) {i : Nat} (hi : i < n) (j : Nat) (v : Bool) : FOk n k (setM F i j v) := by
  obtain ⟨x, hx, hl⟩ := fok_at h hi
  refine ⟨by simp [setM, h.1], fun y hy => ?_⟩
  rcases List.mem_or_eq_of_mem_set hy with h2 | h2
  · exact h.2 y h2
  · subst h2; rw [List.getD_eq_getElem?_getD, hx]; simp [hl]
theorem getM_of {F : List (List Bool)} {i j : Nat} {x : List Bool} {v : Bool} (hx : F[i]? = some x) (hv : x[j]? = some v) : getM F i j = v := by
  have h1 : F.getD i [] = x := by rw [List.getD_eq_getElem?_getD, hx]; rfl
  unfold getM; rw [h1, List.getD_eq_getElem?_getD, hv]; rfl
theorem setM_of {F : List (List Bool)} {i j : Nat} {x : List Bool} (hx : F[i]? = some x) (v : Bool) : setM F i j v = F.set i (x.set j v) := by
  unfold setM; rw [List.getD_eq_getElem?_getD, hx]; rfl
theorem intD_at {l : List Int} {i : Nat} (h : i < l.length) : l[i]? = some (l.getD i 0) := by
  rw [List.getD_eq_getElem?_getD, List.getElem?_eq_getElem h]; rfl

set_option maxHeartbeats 16000000 in
theorem cyclic_calls {g : Gr} {n k : Nat} (hg : GrOk g) (h : (formF g).2 = 0) (hn : g.names = n) (hk : n = k + 1) (hn2 : n ≤ 1000) (hw : ∀ r ∈ g.rules, isName g r.left) (hsy : ∀ r ∈ g.rules, ∀ s ∈ r.right, isSym g s) (M : List Ob) :
    ACalls Try.prog 32 [grA g] M (fun r M' => r = .psl n (bools (cycF g n)) ∧ M' = M) := by
  have hrl := hg.rl
  have hlt : ∀ r ∈ g.rules, r.left.toNat < n := fun r hr => by have := hw r hr; unfold isName at this; omega
  have hnl := nullF_len g n
  refine acalls_of_code 166 Try.func32 rfl rfl rfl ?_
  repeat (first | refine acode_seq ?_ | refine acode_region ?_)
  refine aops_boxf rfl rfl rfl rfl rfl rfl rfl ?_
  repeat (first | refine aops_end ?_ | refine aops_p tok rfl rfl rfl rfl ?_ | refine acode_seq ?_ | refine acode_region ?_)
  refine aops_callx Try.func68 rfl rfl rfl rfl (formed_calls hg _) rfl rfl rfl ?_
  rw [decide_eq_true h]
  repeat' (first | refine aops_end ?_ | refine aops_p tok rfl rfl rfl rfl ?_ | refine acode_if rfl ?_ | refine acode_seq ?_ | refine acode_region ?_ | refine acode_skip ?_ | refine then_n ?_)
  refine aops_callx Try.func70 rfl rfl rfl rfl (rnullable_calls hg h hn hn2 hw hsy _) rfl rfl rfl ?_
  have hE : edgeF g n = g.rules.foldl (edgeR (nullF g n)) (zeroF n k) := by unfold edgeF; rw [hk]; rfl
  have hC : cycF g n = diagT (closF n (edgeF g n)) n := rfl
  rw [hE] at hC
  generalize cycF g n = fin at *
  subst hC
  generalize hnull : nullF g n = null at *
  clear hE hnull
  repeat (first | refine aops_end ?_ | refine aops_p tok rfl rfl rfl rfl ?_ | refine acode_seq ?_ | refine acode_region ?_)
  refine aops_mk tok n rfl rfl rfl rfl hn rfl (by show _ * 24 ≤ _; omega) (by omega) rfl rfl rfl fun fb => ?_
  repeat (first | refine aops_end ?_ | refine aops_p tok rfl rfl rfl rfl ?_ | refine acode_seq ?_ | refine acode_region ?_ | refine acode_block ?_)
  refine acode_loopS (ι := Nat × List Nat) (fun p => [(1, .pp (grC g)), (3, .psl n (bools null)), (4, .int .i64 g.names), (5, .own (some fb) n n), (6, .int .i64 p.1)]) (fun p => ⟨some fb, n * 1, ownsA k p.2 ++ List.replicate (n - p.1) A.nils⟩ :: (obsZ k p.2 (zeroF p.1 k) ++ M)) (fun p => n - p.1) (fun p => p.1 ≤ n ∧ p.2.length = p.1) (0, []) ⟨Nat.zero_le _, rfl⟩ ⟨rfl, rfl, rfl, rfl, rfl, trivial⟩ (by simp only; rw [show List.replicate (n - 0) A.nils = zerosA [A.nils] n from (zerosA_one _ _).symm]; rfl) ?_
  rintro ⟨i, bs⟩ ⟨hi, hbs⟩
  simp only at hi hbs ⊢
  repeat (first | refine aops_end ?_ | refine aops_p tok rfl rfl rfl rfl ?_ | refine acode_seq ?_ | refine acode_region ?_)
  refine acode_id rfl (fun e => ?_) (fun e => ?_)
  · have hil : i < n := by omega
    repeat (first | refine aops_p tok rfl rfl rfl rfl ?_ | refine acode_seq ?_ | refine acode_region ?_ | refine acode_block ?_ | refine acode_skip ?_ | refine then_n ?_)
    refine aops_mk tok (k + 1) rfl rfl rfl rfl (by omega) rfl (by show _ * 1 ≤ _; omega) (by omega) rfl rfl rfl fun b2 => ?_
    skip
    refine aops_ixo tok rfl rfl rfl rfl (by omega) (by omega) rfl rfl rfl ?_
    refine aops_stk tok 1 (ownsA k (bs ++ [b2]) ++ List.replicate (n - (i + 1)) A.nils) _ rfl rfl rfl rfl rfl rfl (by rw [List.length_append, ownsA_len, List.length_replicate, hbs]; show i * 1 + 1 ≤ _; omega) (fill_next hbs hil) rfl rfl rfl ?_
    have hz : obsZ k (bs ++ [b2]) (zeroF (i + 1) k) = obsZ k bs (zeroF i k) ++ [⟨some b2, (k + 1) * 1, bools (zeroB k)⟩] := by
      rw [show zeroF (i + 1) k = zeroF i k ++ [zeroB k] from List.replicate_succ', obsZ_app (by rw [hbs, zeroF_len])]; rfl
    refine aops_perm (⟨some fb, n * 1, ownsA k (bs ++ [b2]) ++ List.replicate (n - (i + 1)) A.nils⟩ :: (obsZ k (bs ++ [b2]) (zeroF (i + 1) k) ++ M)) ?_ ?_
    · rw [hz, List.append_assoc, show bools (zeroB k) = zerosA [A.bool false] (k + 1) from (bools_zeros _).symm]
      exact (List.perm_middle (l₁ := _ :: obsZ k bs (zeroF i k))).symm
    repeat (first | refine aops_end ?_ | refine aops_endb ?_ | refine aops_a tok rfl (by omega) (by omega) rfl rfl rfl ?_ | refine aops_p tok rfl rfl rfl rfl ?_ | refine acode_region ?_ | refine then_n ?_)
    exact ⟨(i + 1, bs ++ [b2]), ⟨by simp; omega, by simp [hbs]⟩, by simp; omega, ⟨rfl, rfl, rfl, rfl, rfl, trivial⟩, rfl⟩
  obtain rfl : n = i := by omega
  clear e hi
  rw [show ownsA k bs ++ List.replicate (n - n) A.nils = ownsA k bs by simp]
  refine acode_exit ?_
  repeat (first | refine exit_then ?_ | refine exit_here ?_ | refine then_n ?_)
  have hbat : ∀ {j : Nat}, j < n → ∃ b, bs[j]? = some b := fun {j} hj => ⟨bs[j]'(by omega), List.getElem?_eq_getElem (by omega)⟩
  have hz0 : FOk n k (zeroF n k) := ⟨zeroF_len n k, zeroF_all⟩
  generalize zeroF n k = Z at *
  repeat (first | refine aops_end ?_ | refine aops_p tok rfl rfl rfl rfl ?_ | refine acode_seq ?_ | refine acode_region ?_ | refine acode_block ?_)
  refine acode_loopS (ι := Nat × List (List Bool)) (fun p => [(1, .pp (grC g)), (3, .psl n (bools null)), (4, .int .i64 g.names), (5, .own (some fb) n n), (7, .int .i64 p.1)]) (fun p => ⟨some fb, n * 1, ownsA k bs⟩ :: (obsZ k bs p.2 ++ M)) (fun p => g.rules.length - p.1) (fun p => p.1 ≤ g.rules.length ∧ FOk n k p.2 ∧ (g.rules.drop p.1).foldl (edgeR null) p.2 = g.rules.foldl (edgeR null) Z) (0, Z) ⟨Nat.zero_le _, hz0, rfl⟩ ⟨rfl, rfl, rfl, rfl, rfl, trivial⟩ rfl ?_
  rintro ⟨i, F⟩ ⟨hi, hF, hfold⟩
  simp only at hi hF hfold ⊢
  repeat (first | refine aops_end ?_ | refine aops_p tok rfl rfl rfl rfl ?_ | refine acode_seq ?_ | refine acode_region ?_)
  refine acode_id rfl (fun e => ?_) (fun e => ?_)
  · have hil : i < g.rules.length := by omega
    obtain ⟨r, hr⟩ : ∃ r, g.rules[i]? = some r := ⟨g.rules[i], List.getElem?_eq_getElem hil⟩
    have hrm := List.mem_of_getElem? hr
    have hdr : g.rules.drop i = r :: g.rules.drop (i + 1) := by
      rw [List.drop_eq_getElem_cons hil]
      rw [List.getElem?_eq_getElem hil] at hr
      rw [Option.some.inj hr]
    rw [hdr, List.foldl_cons] at hfold
    obtain ⟨hr0, hr1⟩ := hw r hrm
    have hl1 := hlt r hrm
    have hrr := (hg.rr r hrm).1
    obtain ⟨bl, hbl⟩ := hbat hl1
    repeat (first | refine aops_p tok rfl rfl rfl rfl ?_ | refine acode_seq ?_ | refine acode_region ?_ | refine acode_block ?_ | refine acode_skip ?_ | refine then_n ?_)
    refine aops_ix tok (ruC r) rfl rfl rfl rfl (by omega) (by omega) (by simp [ruC]) (encs_at (e := ruC) (s := 3) (fun _ => rfl) (i := (i : Int).toNat) (by simpa using hr)) rfl rfl rfl ?_
    repeat (refine aops_p tok rfl rfl rfl rfl ?_)
    refine aops_alloc tok rfl rfl rfl rfl rfl rfl fun ba => ?_
    refine aops_stn tok rfl rfl rfl rfl rfl rfl rfl rfl rfl ?_
    refine aops_pubref0 8 rfl ?_
    repeat (first | refine aops_end ?_ | refine aops_p tok rfl rfl rfl rfl ?_ | refine acode_seq ?_ | refine acode_region ?_ | refine acode_block ?_)
    refine acode_loopS (ι := Nat × List (List Bool)) (fun p => [(1, .pp (grC g)), (3, .psl n (bools null)), (4, .int .i64 g.names), (5, .own (some fb) n n), (7, .int .i64 i), (8, .pp (ruC r)), (9, .int .i64 p.1)]) (fun p => ⟨some fb, n * 1, ownsA k bs⟩ :: (obsZ k bs p.2 ++ M)) (fun p => r.right.length - p.1) (fun p => p.1 ≤ r.right.length ∧ FOk n k p.2 ∧ ((List.range r.right.length).drop p.1).foldl (edgeS null r) p.2 = edgeR null F r) (0, F) ⟨Nat.zero_le _, hF, rfl⟩ ⟨rfl, rfl, rfl, rfl, rfl, rfl, rfl, trivial⟩ rfl ?_
    rintro ⟨q, F1⟩ ⟨hq, hF1, hf1⟩
    simp only at hq hF1 hf1 ⊢
    repeat (first | refine aops_end ?_ | refine aops_p tok rfl rfl rfl rfl ?_ | refine acode_seq ?_ | refine acode_region ?_)
    refine acode_id rfl (fun e1 => ?_) (fun e1 => ?_)
    · have hql : q < r.right.length := by omega
      rw [range_drop hql, List.foldl_cons] at hf1
      have hs := intD_at hql
      have hss := hsy r hrm _ (List.mem_of_getElem? hs)
      generalize hsd : r.right.getD q 0 = s at *
      repeat (first | refine aops_p tok rfl rfl rfl rfl ?_ | refine acode_seq ?_ | refine acode_region ?_ | refine acode_block ?_ | refine acode_skip ?_ | refine then_n ?_)
      refine aops_ix tok [A.int .i64 s] rfl rfl rfl rfl (by omega) (by omega) (by simp) (ints_at (j := q) (by simpa using hs)) rfl rfl rfl ?_
      by_cases hs0 : 0 ≤ s
      · have hname : isName g s := hss.resolve_left (fun h1 => by unfold isKind at h1; omega)
        obtain ⟨n0, n1⟩ := id hname
        repeat' (first | refine aops_end ?_ | refine aops_pbt tok rfl (by first | omega | decide) rfl rfl rfl ?_ | refine aops_p tok rfl rfl rfl rfl ?_ | refine acode_seq ?_ | refine acode_region ?_ | refine acode_block ?_)
        refine acode_loopS (ι := Nat) (fun j => [(1, .pp (grC g)), (3, .psl n (bools null)), (4, .int .i64 g.names), (5, .own (some fb) n n), (7, .int .i64 i), (8, .pp (ruC r)), (9, .int .i64 q), (10, .bool (aloneT null r.right q j)), (11, .int .i64 j)]) (fun _ => ⟨some fb, n * 1, ownsA k bs⟩ :: (obsZ k bs F1 ++ M)) (fun j => r.right.length - j) (fun j => j ≤ r.right.length) 0 (Nat.zero_le _) ⟨rfl, rfl, rfl, rfl, rfl, rfl, rfl, by unfold aloneT; rw [hsd, decide_eq_true hs0]; rfl, rfl, trivial⟩ rfl ?_
        intro j hj
        cases hal : aloneT null r.right q j with
        | false =>
          have hal2 : aloneT null r.right q r.right.length = false := by have := aloneT_mono hal (r.right.length - j); rwa [show j + (r.right.length - j) = r.right.length by omega] at this
          have hst : edgeS null r F1 q = F1 := by unfold edgeS; rw [hal2]; rfl
          rw [hst] at hf1
          repeat' (first | refine aops_end ?_ | refine aops_o rfl rfl rfl ?_ | (refine aops_pd tok rfl rfl rfl rfl ?_ ?_ <;> intro e_) | refine aops_p tok rfl rfl rfl rfl ?_ | refine acode_if rfl ?_ | refine acode_seq ?_ | refine acode_region ?_)
          all_goals
            refine acode_exit ?_
            repeat (first | refine exit_then ?_ | refine exit_here ?_ | refine then_n ?_)
            repeat' (first | refine aops_end ?_ | refine aops_a tok rfl (by omega) (by omega) rfl rfl rfl ?_ | refine aops_p tok rfl rfl rfl rfl ?_ | refine acode_if rfl ?_ | refine acode_seq ?_ | refine acode_region ?_ | refine acode_skip ?_ | refine then_n ?_ | refine block_n ?_)
            exact ⟨(q + 1, F1), ⟨by simp; omega, hF1, hf1⟩, by simp; omega, ⟨rfl, rfl, rfl, rfl, rfl, rfl, rfl, trivial⟩, rfl⟩
        | true =>
          by_cases hjl : j < r.right.length
          · have hsu := aloneT_succ null r.right q j
            rw [hal, Bool.true_and] at hsu
            have ht := intD_at hjl
            have hts := hsy r hrm _ (List.mem_of_getElem? ht)
            generalize htd : r.right.getD j 0 = t at *
            by_cases hjq : j = q
            · rw [show (j == q) = true by simpa using hjq, Bool.true_or] at hsu
              repeat' (first | refine aops_end ?_ | refine aops_endb ?_ | refine aops_o rfl rfl rfl ?_ | refine aops_a tok rfl (by omega) (by omega) rfl rfl rfl ?_ | refine aops_pbt tok rfl (by first | omega | decide) rfl rfl rfl ?_ | refine aops_p tok rfl rfl rfl rfl ?_ | refine acode_it rfl ?_ | refine acode_seq ?_ | refine acode_region ?_ | refine acode_block ?_ | refine acode_skip ?_ | refine then_n ?_)
              exact ⟨j + 1, by omega, by omega, ⟨rfl, rfl, rfl, rfl, rfl, rfl, rfl, by rw [hsu]; rfl, rfl, trivial⟩, rfl⟩
            · rw [show (j == q) = false by simpa using hjq, Bool.false_or] at hsu
              repeat' (first | refine aops_end ?_ | refine aops_pbt tok rfl (by first | omega | decide) rfl rfl rfl ?_ | refine aops_pbf tok rfl (by first | omega | decide) rfl rfl rfl ?_ | refine aops_p tok rfl rfl rfl rfl ?_ | refine acode_it rfl ?_ | refine acode_seq ?_ | refine acode_region ?_ | refine acode_block ?_ | refine acode_skip ?_ | refine then_n ?_)
              refine aops_ix tok [A.int .i64 t] rfl rfl rfl rfl (by omega) (by omega) (by simp) (ints_at (j := j) (by simpa using ht)) rfl rfl rfl ?_
              by_cases ht0 : 0 ≤ t
              · have hnm : isName g t := hts.resolve_left (fun h1 => by unfold isKind at h1; omega)
                obtain ⟨m0, m1⟩ := id hnm
                have hz := getD_at (l := null) (i := t.toNat) (by omega)
                rw [decide_eq_true ht0, Bool.true_and] at hsu
                generalize null.getD t.toNat false = z at *
                repeat' (first | refine aops_pbt tok rfl (by first | omega | decide) rfl rfl rfl ?_ | refine aops_p tok rfl rfl rfl rfl ?_)
                refine aops_ix tok [A.int .i64 t] rfl rfl rfl rfl (by omega) (by omega) (by simp) (ints_at (j := j) (by simpa using ht)) rfl rfl rfl ?_
                repeat (refine aops_p tok rfl rfl rfl rfl ?_)
                refine aops_ix tok [A.bool z] rfl rfl rfl rfl ht0 (by omega) (by simp) (bools_at hz) rfl rfl rfl ?_
                repeat (first | refine aops_end ?_ | refine aops_endb ?_ | refine aops_a tok rfl (by omega) (by omega) rfl rfl rfl ?_ | refine aops_p tok rfl rfl rfl rfl ?_ | refine acode_region ?_ | refine then_n ?_)
                exact ⟨j + 1, by omega, by omega, ⟨rfl, rfl, rfl, rfl, rfl, rfl, rfl, by rw [hsu]; rfl, rfl, trivial⟩, rfl⟩
              · rw [decide_eq_false ht0, Bool.false_and] at hsu
                repeat' (first | refine aops_end ?_ | refine aops_endb ?_ | refine aops_o rfl rfl rfl ?_ | refine aops_a tok rfl (by omega) (by omega) rfl rfl rfl ?_ | refine aops_pbf tok rfl (by first | omega | decide) rfl rfl rfl ?_ | refine aops_p tok rfl rfl rfl rfl ?_ | refine acode_region ?_ | refine then_n ?_)
                exact ⟨j + 1, by omega, by omega, ⟨rfl, rfl, rfl, rfl, rfl, rfl, rfl, by rw [hsu]; rfl, rfl, trivial⟩, rfl⟩
          · obtain rfl : j = r.right.length := by omega
            have hst : edgeS null r F1 q = setM F1 r.left.toNat s.toNat true := by unfold edgeS; rw [hal, hsd]; rfl
            obtain ⟨x, hx, hxl⟩ := fok_at hF1 hl1
            have hok2 := setM_ok hF1 hl1 s.toNat true
            rw [hst] at hf1
            rw [setM_of hx] at hf1 hok2
            repeat' (first | refine aops_end ?_ | refine aops_o rfl rfl rfl ?_ | refine aops_pbf tok rfl (by first | omega | decide) rfl rfl rfl ?_ | refine aops_p tok rfl rfl rfl rfl ?_ | refine acode_if rfl ?_ | refine acode_seq ?_ | refine acode_region ?_)
            refine acode_exit ?_
            repeat (first | refine exit_then ?_ | refine exit_here ?_ | refine then_n ?_)
            repeat' (first | refine aops_end ?_ | refine aops_p tok rfl rfl rfl rfl ?_ | refine acode_it rfl ?_ | refine acode_seq ?_ | refine acode_region ?_)
            refine acode_drawT 10 mixed (by kernel_rfl) (by kernel_rfl) ?_
            repeat (refine seqT_p tok rfl rfl rfl rfl ?_)
            refine seqT_ixo tok rfl rfl rfl rfl hr0 (by omega) rfl rfl rfl ?_
            refine seqT_ld tok 0 (y := .own (some bl) (k + 1) (k + 1)) rfl rfl rfl rfl (by rw [headed_eq]; exact ownsA_get hbl) rfl rfl rfl ?_
            repeat (refine seqT_p tok rfl rfl rfl rfl ?_)
            refine seqT_ix tok [A.int .i64 s] rfl rfl rfl rfl (by omega) (by omega) (by simp) (ints_at (j := q) (by simpa using hs)) rfl rfl rfl ?_
            repeat (refine seqT_p tok rfl rfl rfl rfl ?_)
            refine SeqT.done ?_
            refine aops_ixo tok rfl rfl rfl rfl n0 (by omega) rfl rfl rfl ?_
            refine aops_stk tok (r.left.toNat + 1) (bools (x.set s.toNat true)) (⟨some fb, n * 1, ownsA k bs⟩ :: (obsZ k bs (F1.set r.left.toNat (x.set s.toNat true)) ++ M)) rfl rfl rfl rfl (obs_at hbl hx) rfl (by rw [bools_len, hxl]; show s.toNat * 1 + 1 ≤ _; omega) (bools_set (by omega) _) (obs_set hbl hx _) rfl rfl ?_
            repeat (first | refine aops_end ?_ | refine aops_endb ?_ | refine aops_a tok rfl (by omega) (by omega) rfl rfl rfl ?_ | refine aops_p tok rfl rfl rfl rfl ?_ | refine acode_region ?_ | refine then_n ?_)
            exact ⟨(q + 1, F1.set r.left.toNat (x.set s.toNat true)), ⟨by simp; omega, hok2, hf1⟩, by simp; omega, ⟨rfl, rfl, rfl, rfl, rfl, rfl, rfl, trivial⟩, rfl⟩
      · have hst : edgeS null r F1 q = F1 := by
          unfold edgeS; rw [if_neg]; unfold aloneT; rw [hsd, decide_eq_false hs0]; simp
        rw [hst] at hf1
        repeat' (first | refine aops_end ?_ | refine aops_pbf tok rfl (by first | omega | decide) rfl rfl rfl ?_ | refine aops_p tok rfl rfl rfl rfl ?_ | refine acode_seq ?_ | refine acode_region ?_ | refine acode_block ?_)
        refine acode_loopS (ι := Unit) (fun _ => [(1, .pp (grC g)), (3, .psl n (bools null)), (4, .int .i64 g.names), (5, .own (some fb) n n), (7, .int .i64 i), (8, .pp (ruC r)), (9, .int .i64 q), (10, .bool false), (11, .int .i64 0)]) (fun _ => ⟨some fb, n * 1, ownsA k bs⟩ :: (obsZ k bs F1 ++ M)) (fun _ => 0) (fun _ => True) () trivial ⟨rfl, rfl, rfl, rfl, rfl, rfl, rfl, rfl, rfl, trivial⟩ rfl ?_
        intro _ _
        repeat' (first | refine aops_end ?_ | refine aops_pbt tok rfl (by first | omega | decide) rfl rfl rfl ?_ | refine aops_p tok rfl rfl rfl rfl ?_ | refine acode_if rfl ?_ | refine acode_seq ?_ | refine acode_region ?_)
        refine acode_exit ?_
        repeat (first | refine exit_then ?_ | refine exit_here ?_ | refine then_n ?_)
        repeat' (first | refine aops_end ?_ | refine aops_a tok rfl (by omega) (by omega) rfl rfl rfl ?_ | refine aops_p tok rfl rfl rfl rfl ?_ | refine acode_if rfl ?_ | refine acode_seq ?_ | refine acode_region ?_ | refine acode_skip ?_ | refine then_n ?_ | refine block_n ?_)
        exact ⟨(q + 1, F1), ⟨by simp; omega, hF1, hf1⟩, by simp; omega, ⟨rfl, rfl, rfl, rfl, rfl, rfl, rfl, trivial⟩, rfl⟩
    · obtain rfl : q = r.right.length := by omega
      rw [range_dropn, List.foldl_nil] at hf1
      rw [← hf1] at hfold
      refine acode_exit ?_
      repeat (first | refine exit_then ?_ | refine exit_here ?_ | refine then_n ?_ | refine block_n ?_)
      repeat (first | refine aops_end ?_ | refine aops_a tok rfl (by omega) (by omega) rfl rfl rfl ?_ | refine aops_p tok rfl rfl rfl rfl ?_ | refine acode_region ?_)
      exact ⟨(i + 1, F1), ⟨by simp; omega, hF1, hfold⟩, by simp; omega, ⟨rfl, rfl, rfl, rfl, rfl, trivial⟩, rfl⟩
  obtain rfl : i = g.rules.length := by omega
  rw [List.drop_length, List.foldl_nil] at hfold
  rw [← hfold]
  clear hfold hi e
  refine acode_exit ?_
  repeat (first | refine exit_then ?_ | refine exit_here ?_ | refine then_n ?_)
  have hdec : diagT (closF n F) n = diagT (closF n F) n := rfl
  generalize hfin : closF n F = fin
  unfold closF at hfin
  repeat (first | refine aops_end ?_ | refine aops_p tok rfl rfl rfl rfl ?_ | refine acode_seq ?_ | refine acode_region ?_ | refine acode_block ?_)
  refine acode_loopS (ι := Nat × List (List Bool)) (fun p => [(4, .int .i64 g.names), (5, .own (some fb) n n), (12, .int .i64 p.1)]) (fun p => ⟨some fb, n * 1, ownsA k bs⟩ :: (obsZ k bs p.2 ++ M)) (fun p => n - p.1) (fun p => p.1 ≤ n ∧ FOk n k p.2 ∧ ((List.range n).drop p.1).foldl (closK n) p.2 = fin) (0, F) ⟨Nat.zero_le _, hF, hfin⟩ ⟨rfl, rfl, rfl, trivial⟩ rfl ?_
  clear hdec hfin hF
  rintro ⟨q, F⟩ ⟨hq, hF, hfin⟩
  simp only at hq hF hfin ⊢
  repeat (first | refine aops_end ?_ | refine aops_p tok rfl rfl rfl rfl ?_ | refine acode_seq ?_ | refine acode_region ?_)
  refine acode_id rfl (fun e => ?_) (fun e => ?_)
  · have hql : q < n := by omega
    rw [range_drop hql, List.foldl_cons] at hfin
    obtain ⟨bq, hbq⟩ := hbat hql
    generalize hfk : closK n F q = Fk at hfin
    unfold closK at hfk
    repeat (first | refine aops_end ?_ | refine aops_p tok rfl rfl rfl rfl ?_ | refine acode_seq ?_ | refine acode_region ?_ | refine acode_block ?_ | refine acode_skip ?_ | refine then_n ?_)
    refine acode_loopS (ι := Nat × List (List Bool)) (fun p => [(4, .int .i64 g.names), (5, .own (some fb) n n), (12, .int .i64 q), (13, .int .i64 p.1)]) (fun p => ⟨some fb, n * 1, ownsA k bs⟩ :: (obsZ k bs p.2 ++ M)) (fun p => n - p.1) (fun p => p.1 ≤ n ∧ FOk n k p.2 ∧ ((List.range n).drop p.1).foldl (closR n q) p.2 = Fk) (0, F) ⟨Nat.zero_le _, hF, hfk⟩ ⟨rfl, rfl, rfl, rfl, trivial⟩ rfl ?_
    clear hfk hF
    rintro ⟨i, F⟩ ⟨hi, hF, hfk⟩
    simp only at hi hF hfk ⊢
    repeat (first | refine aops_end ?_ | refine aops_p tok rfl rfl rfl rfl ?_ | refine acode_seq ?_ | refine acode_region ?_)
    refine acode_id rfl (fun e2 => ?_) (fun e2 => ?_)
    · have hil : i < n := by omega
      rw [range_drop hil, List.foldl_cons] at hfk
      obtain ⟨bi, hbi⟩ := hbat hil
      generalize hfi : closR n q F i = Fi at hfk
      unfold closR at hfi
      repeat (first | refine aops_end ?_ | refine aops_p tok rfl rfl rfl rfl ?_ | refine acode_seq ?_ | refine acode_region ?_ | refine acode_block ?_ | refine acode_skip ?_ | refine then_n ?_)
      refine acode_loopS (ι := Nat × List (List Bool)) (fun p => [(4, .int .i64 g.names), (5, .own (some fb) n n), (12, .int .i64 q), (13, .int .i64 i), (14, .int .i64 p.1)]) (fun p => ⟨some fb, n * 1, ownsA k bs⟩ :: (obsZ k bs p.2 ++ M)) (fun p => n - p.1) (fun p => p.1 ≤ n ∧ FOk n k p.2 ∧ ((List.range n).drop p.1).foldl (closS q i) p.2 = Fi) (0, F) ⟨Nat.zero_le _, hF, hfi⟩ ⟨rfl, rfl, rfl, rfl, rfl, trivial⟩ rfl ?_
      clear hfi hF
      rintro ⟨j, F⟩ ⟨hj, hF, hfi⟩
      simp only at hj hF hfi ⊢
      repeat (first | refine aops_end ?_ | refine aops_p tok rfl rfl rfl rfl ?_ | refine acode_seq ?_ | refine acode_region ?_)
      refine acode_id rfl (fun e3 => ?_) (fun e3 => ?_)
      · have hjl : j < n := by omega
        rw [range_drop hjl, List.foldl_cons] at hfi
        obtain ⟨x, hx, hxl⟩ := fok_at hF hil
        obtain ⟨y, hy, hyl⟩ := fok_at hF hql
        obtain ⟨a, ha⟩ : ∃ a, x[j]? = some a := ⟨x[j]'(by omega), List.getElem?_eq_getElem (by omega)⟩
        obtain ⟨b, hb⟩ : ∃ b, x[q]? = some b := ⟨x[q]'(by omega), List.getElem?_eq_getElem (by omega)⟩
        obtain ⟨c, hc⟩ : ∃ c, y[j]? = some c := ⟨y[j]'(by omega), List.getElem?_eq_getElem (by omega)⟩
        have hok2 := setM_ok hF hil j (a || b && c)
        have hst : closS q i F j = setM F i j (a || b && c) := by unfold closS; rw [getM_of hx ha, getM_of hx hb, getM_of hy hc]
        rw [hst] at hfi
        rw [setM_of hx] at hfi hok2
        repeat (first | refine acode_seq ?_ | refine acode_block ?_ | refine acode_skip ?_ | refine then_n ?_)
        refine acode_drawT 30 mixed (by kernel_rfl) (by kernel_rfl) ?_
        repeat (refine seqT_p tok rfl rfl rfl rfl ?_)
        refine seqT_ixo tok rfl rfl rfl rfl (by omega) (by omega) rfl rfl rfl ?_
        refine seqT_ld tok 0 (y := .own (some bi) (k + 1) (k + 1)) rfl rfl rfl rfl (by rw [headed_eq]; exact ownsA_get hbi) rfl rfl rfl ?_
        repeat (refine seqT_p tok rfl rfl rfl rfl ?_)
        refine seqT_ixo tok rfl rfl rfl rfl (by omega) (by omega) rfl rfl rfl ?_
        refine seqT_ld tok 0 (y := .own (some bi) (k + 1) (k + 1)) rfl rfl rfl rfl (by rw [headed_eq]; exact ownsA_get hbi) rfl rfl rfl ?_
        repeat (refine seqT_p tok rfl rfl rfl rfl ?_)
        refine seqT_ixo tok rfl rfl rfl rfl (by omega) (by omega) rfl rfl rfl ?_
        refine seqT_ld tok (i + 1) (y := .bool a) rfl rfl rfl (obs_at hbi hx) (by rw [headed_eq]; exact bools_get ha) rfl rfl rfl ?_
        cases a with
        | true =>
          repeat (first | refine seqT_o rfl rfl rfl ?_ | refine seqT_p tok rfl rfl rfl rfl ?_)
          refine SeqT.done ?_
          refine aops_ixo tok rfl rfl rfl rfl (by omega) (by omega) rfl rfl rfl ?_
          refine aops_stk tok (i + 1) (bools (x.set j (true || b && c))) (⟨some fb, n * 1, ownsA k bs⟩ :: (obsZ k bs (F.set i (x.set j (true || b && c))) ++ M)) rfl rfl rfl rfl (obs_at hbi hx) rfl (by rw [bools_len, hxl]; show j * 1 + 1 ≤ _; omega) (bools_set (by omega) _) (obs_set hbi hx _) rfl rfl ?_
          repeat (first | refine aops_end ?_ | refine aops_endb ?_ | refine aops_a tok rfl (by omega) (by omega) rfl rfl rfl ?_ | refine aops_p tok rfl rfl rfl rfl ?_ | refine acode_region ?_ | refine then_n ?_)
          exact ⟨(j + 1, F.set i (x.set j (true || b && c))), ⟨by simp; omega, hok2, hfi⟩, by simp; omega, ⟨rfl, rfl, rfl, rfl, rfl, trivial⟩, rfl⟩
        | false =>
          repeat (refine seqT_p tok rfl rfl rfl rfl ?_)
          refine seqT_ixo tok rfl rfl rfl rfl (by omega) (by omega) rfl rfl rfl ?_
          refine seqT_ld tok 0 (y := .own (some bi) (k + 1) (k + 1)) rfl rfl rfl rfl (by rw [headed_eq]; exact ownsA_get hbi) rfl rfl rfl ?_
          repeat (refine seqT_p tok rfl rfl rfl rfl ?_)
          refine seqT_ixo tok rfl rfl rfl rfl (by omega) (by omega) rfl rfl rfl ?_
          refine seqT_ld tok (i + 1) (y := .bool b) rfl rfl rfl (obs_at hbi hx) (by rw [headed_eq]; exact bools_get hb) rfl rfl rfl ?_
          cases b with
          | false =>
            repeat (first | refine seqT_o rfl rfl rfl ?_ | refine seqT_p tok rfl rfl rfl rfl ?_)
            refine SeqT.done ?_
            refine aops_ixo tok rfl rfl rfl rfl (by omega) (by omega) rfl rfl rfl ?_
            refine aops_stk tok (i + 1) (bools (x.set j (false || false && c))) (⟨some fb, n * 1, ownsA k bs⟩ :: (obsZ k bs (F.set i (x.set j (false || false && c))) ++ M)) rfl rfl rfl rfl (obs_at hbi hx) rfl (by rw [bools_len, hxl]; show j * 1 + 1 ≤ _; omega) (bools_set (by omega) _) (obs_set hbi hx _) rfl rfl ?_
            repeat (first | refine aops_end ?_ | refine aops_endb ?_ | refine aops_a tok rfl (by omega) (by omega) rfl rfl rfl ?_ | refine aops_p tok rfl rfl rfl rfl ?_ | refine acode_region ?_ | refine then_n ?_)
            exact ⟨(j + 1, F.set i (x.set j (false || false && c))), ⟨by simp; omega, hok2, hfi⟩, by simp; omega, ⟨rfl, rfl, rfl, rfl, rfl, trivial⟩, rfl⟩
          | true =>
            repeat (refine seqT_p tok rfl rfl rfl rfl ?_)
            refine seqT_ixo tok rfl rfl rfl rfl (by omega) (by omega) rfl rfl rfl ?_
            refine seqT_ld tok 0 (y := .own (some bq) (k + 1) (k + 1)) rfl rfl rfl rfl (by rw [headed_eq]; exact ownsA_get hbq) rfl rfl rfl ?_
            repeat (refine seqT_p tok rfl rfl rfl rfl ?_)
            refine seqT_ixo tok rfl rfl rfl rfl (by omega) (by omega) rfl rfl rfl ?_
            refine seqT_ld tok (q + 1) (y := .bool c) rfl rfl rfl (obs_at hbq hy) (by rw [headed_eq]; exact bools_get hc) rfl rfl rfl ?_
            repeat (refine seqT_p tok rfl rfl rfl rfl ?_)
            refine SeqT.done ?_
            refine aops_ixo tok rfl rfl rfl rfl (by omega) (by omega) rfl rfl rfl ?_
            refine aops_stk tok (i + 1) (bools (x.set j (false || true && c))) (⟨some fb, n * 1, ownsA k bs⟩ :: (obsZ k bs (F.set i (x.set j (false || true && c))) ++ M)) rfl rfl rfl rfl (obs_at hbi hx) rfl (by rw [bools_len, hxl]; show j * 1 + 1 ≤ _; omega) (bools_set (by omega) _) (obs_set hbi hx _) rfl rfl ?_
            repeat (first | refine aops_end ?_ | refine aops_endb ?_ | refine aops_a tok rfl (by omega) (by omega) rfl rfl rfl ?_ | refine aops_p tok rfl rfl rfl rfl ?_ | refine acode_region ?_ | refine then_n ?_)
            exact ⟨(j + 1, F.set i (x.set j (false || true && c))), ⟨by simp; omega, hok2, hfi⟩, by simp; omega, ⟨rfl, rfl, rfl, rfl, rfl, trivial⟩, rfl⟩
      · obtain rfl : n = j := by omega
        rw [range_dropn, List.foldl_nil] at hfi
        subst hfi
        refine acode_exit ?_
        repeat (first | refine exit_then ?_ | refine exit_here ?_ | refine then_n ?_ | refine block_n ?_)
        repeat (first | refine aops_end ?_ | refine aops_a tok rfl (by omega) (by omega) rfl rfl rfl ?_ | refine aops_p tok rfl rfl rfl rfl ?_ | refine acode_region ?_)
        exact ⟨(i + 1, F), ⟨by simp; omega, hF, hfk⟩, by simp; omega, ⟨rfl, rfl, rfl, rfl, trivial⟩, rfl⟩
    · obtain rfl : n = i := by omega
      rw [range_dropn, List.foldl_nil] at hfk
      subst hfk
      refine acode_exit ?_
      repeat (first | refine exit_then ?_ | refine exit_here ?_ | refine then_n ?_ | refine block_n ?_)
      repeat (first | refine aops_end ?_ | refine aops_a tok rfl (by omega) (by omega) rfl rfl rfl ?_ | refine aops_p tok rfl rfl rfl rfl ?_ | refine acode_region ?_)
      exact ⟨(q + 1, F), ⟨by simp; omega, hF, hfin⟩, by simp; omega, ⟨rfl, rfl, rfl, trivial⟩, rfl⟩
  obtain rfl : n = q := by omega
  rw [range_dropn, List.foldl_nil] at hfin
  subst hfin
  clear e hq
  refine acode_exit ?_
  repeat (first | refine exit_then ?_ | refine exit_here ?_ | refine then_n ?_)
  repeat (first | refine aops_end ?_ | refine aops_p tok rfl rfl rfl rfl ?_ | refine acode_seq ?_ | refine acode_region ?_ | refine acode_block ?_)
  refine acode_adopt 15 1 rfl ?_
  refine acode_loopS (ι := Nat × Option Nat × Nat) (fun p => [(4, .int .i64 g.names), (5, .own (some fb) n n), (15, .own p.2.1 p.1 p.2.2), (16, .int .i64 p.1)]) (fun p => ⟨p.2.1, p.2.2 * 1, bools (diagT F p.1)⟩ :: ⟨some fb, n * 1, ownsA k bs⟩ :: (obsZ k bs F ++ M)) (fun p => n - p.1) (fun p => p.1 ≤ n) (0, none, 0) (Nat.zero_le _) ⟨rfl, rfl, rfl, rfl, trivial⟩ rfl ?_
  rintro ⟨i, ob, cap⟩ hi
  simp only at hi ⊢
  have hdl : ∀ i, (diagT F i).length = i := fun i => by simp [diagT]
  repeat (first | refine aops_end ?_ | refine aops_p tok rfl rfl rfl rfl ?_ | refine acode_seq ?_ | refine acode_region ?_)
  refine acode_id rfl (fun e => ?_) (fun e => ?_)
  · have hil : i < n := by omega
    obtain ⟨x, hx, hxl⟩ := fok_at hF hil
    obtain ⟨bi, hbi⟩ := hbat hil
    obtain ⟨a, ha⟩ : ∃ a, x[i]? = some a := ⟨x[i]'(by omega), List.getElem?_eq_getElem (by omega)⟩
    have hds : diagT F (i + 1) = diagT F i ++ [a] := by unfold diagT; rw [List.range_succ, List.map_append]; simp [getM_of hx ha]
    repeat (first | refine aops_p tok rfl rfl rfl rfl ?_ | refine acode_seq ?_ | refine acode_region ?_ | refine acode_block ?_ | refine acode_skip ?_ | refine then_n ?_)
    refine aops_ixo tok rfl rfl rfl rfl (by omega) (by omega) rfl rfl rfl ?_
    refine aops_ld tok 1 (y := .own (some bi) (k + 1) (k + 1)) rfl rfl rfl rfl (by rw [headed_eq]; exact ownsA_get hbi) rfl rfl rfl ?_
    repeat (refine aops_p tok rfl rfl rfl rfl ?_)
    refine aops_ixo tok rfl rfl rfl rfl (by omega) (by omega) rfl rfl rfl ?_
    refine aops_ld tok (i + 1 + 1) (y := .bool a) rfl rfl rfl (obs_at (o0 := ⟨some fb, n * 1, ownsA k bs⟩) (M := M) hbi hx) (by rw [headed_eq]; exact bools_get ha) rfl rfl rfl ?_
    skip
    refine aops_litn tok rfl rfl rfl rfl rfl rfl rfl ?_
    refine aops_append tok 0 (m := 1) rfl rfl rfl (.inl rfl) rfl rfl (by rw [bools_len, hdl]; show _ = _ * 1; omega) rfl rfl rfl (by show _ * 1 ≤ _; omega) (by omega) rfl rfl fun ob' cap' => ?_
    repeat (first | refine aops_put rfl ?_ | refine aops_end ?_ | refine aops_endb ?_ | refine aops_a tok rfl (by omega) (by omega) rfl rfl rfl ?_ | refine aops_p tok rfl rfl rfl rfl ?_ | refine acode_region ?_ | refine then_n ?_)
    exact ⟨(i + 1, ob', cap'), by simp; omega, by simp; omega, ⟨rfl, rfl, rfl, rfl, trivial⟩, by simp only [hds, bools, List.map_append]; rfl⟩
  · obtain rfl : n = i := by omega
    refine acode_exit ?_
    repeat (first | refine exit_then ?_ | refine exit_here ?_ | refine then_n ?_)
    repeat (first | refine aops_end ?_ | refine aops_p tok rfl rfl rfl rfl ?_ | refine acode_seq ?_ | refine acode_region ?_)
    refine acode_pub0 2 1 rfl rfl (by rw [bools_len, hdl]; omega) rfl ?_
    refine acode_drop0 ?_
    refine acode_dropL _ ?_
    refine acode_ret ?_
    skip
    exact ⟨_, ⟨rfl, rfl⟩, resOf_tmp rfl⟩
end Go.Proofs.Ytbnhmioijeagiaa.Ab
/- Chapter 13's reference, Check: the walk. No condition. -/
set_option linter.unusedVariables false
set_option linter.unusedSimpArgs false
namespace Go.Proofs.Ytbnhmioijeagiaa.Ab
attribute [local irreducible] thenA inBlockA ACode AOps put IntKind.wrap

def useless (g : Gr) (n i : Nat) : Bool := !((reachF g n).getD i false) || !((prodF g n).getD i false)
def chkF (g : Gr) : Int := if (formF g).2 ≠ 0 then (formF g).2 else if (List.range g.names.toNat).any (useless g g.names.toNat) then 7 else if (cycF g g.names.toNat).any id then 8 else 0

theorem rulesF_spec {g : Gr} : ∀ (i : Int) (l : List Ru), (∀ p, rulesF g i l = some p → p.2 ≠ 0) ∧ (rulesF g i l = none → ∀ r ∈ l, ruleF g r = 0)
  | _, [] => ⟨fun p h => by simp [rulesF] at h, fun _ r h => by simp at h⟩
  | i, r :: rs => by
    obtain ⟨h1, h2⟩ := rulesF_spec (g := g) (i + 1) rs
    unfold rulesF
    split
    · rename_i h
      refine ⟨fun p hp => ?_, fun h => by simp at h⟩
      obtain rfl := Option.some.inj hp
      exact h
    · rename_i h
      refine ⟨h1, fun h' q hq => ?_⟩
      rcases List.mem_cons.1 hq with rfl | hq
      · exact Classical.not_not.1 h
      · exact h2 h' q hq
structure FormOk (g : Gr) (n : Nat) : Prop where
  n0 : 1 ≤ n
  n1 : n ≤ 40
  k0 : 0 ≤ g.kinds
  k1 : g.kinds ≤ 40
  rl : g.rules.length ≤ 60
  fl : g.forbid.length ≤ 200
  st : isName g g.start
  left : ∀ r ∈ g.rules, isName g r.left
  sym : ∀ r ∈ g.rules, ∀ s ∈ r.right, isSym g s
  len : ∀ r ∈ g.rules, r.right.length ≤ 8
  forb : ∀ f ∈ g.forbid, forbOk g f
theorem form_ok {g : Gr} (h : (formF g).2 = 0) : FormOk g g.names.toNat ∧ g.names = g.names.toNat := by
  unfold formF at h
  split at h
  · rename_i h1; exact absurd h h1
  rename_i h1
  have hw : wholeF g = 0 := Classical.not_not.1 h1
  unfold wholeF at hw
  split at hw
  · omega
  rename_i hb
  split at hw
  · omega
  rename_i hs
  have hb' : ¬ (g.names < 1 ∨ g.names > 40 ∨ g.kinds < 0 ∨ g.kinds > 40 ∨ g.rules.length > 60 ∨ g.forbid.length > 200) := hb
  obtain ⟨r1, r2⟩ := rulesF_spec (g := g) 0 g.rules
  split at h
  · rename_i p hp; exact absurd h (r1 p hp)
  rename_i hp
  have hr := r2 hp
  split at h
  · simp at h
  rename_i hf
  have hrule : ∀ r ∈ g.rules, (isName g r.left ∧ ∀ s ∈ r.right, isSym g s) ∧ r.right.length ≤ 8 := fun r hr' => by
    have := hr r hr'
    unfold ruleF at this
    split at this
    · omega
    rename_i a
    split at this
    · omega
    rename_i b
    refine ⟨?_, by omega⟩
    have ha := not_or.1 a
    refine ⟨Classical.not_not.1 ha.1, fun s hs => ?_⟩
    have := ha.2
    simp only [List.any_eq_true, not_exists, not_and] at this
    simpa using this s hs
  refine ⟨⟨by omega, by omega, by omega, by omega, by omega, by omega, Classical.not_not.1 hs, fun r h => (hrule r h).1.1, fun r h => (hrule r h).1.2, fun r h => (hrule r h).2, fun f hfm => ?_⟩, by omega⟩
  simp only [List.any_eq_true, not_exists, not_and] at hf
  simpa using hf f hfm

set_option maxHeartbeats 8000000 in
theorem check_calls {g : Gr} (hg : GrOk g) (M : List Ob) : ACalls Try.prog 10 [grA g] M (fun x M' => (∃ a, x = .tup [.int .i64 a, .int .i64 (chkF g)]) ∧ M' = M) := by
  have hC : chkF g = if (formF g).2 ≠ 0 then (formF g).2 else if (List.range g.names.toNat).any (useless g g.names.toNat) then 7 else if (cycF g g.names.toNat).any id then 8 else 0 := rfl
  refine acalls_of_code 56 Try.func10 rfl rfl rfl ?_
  repeat (first | refine acode_seq ?_ | refine acode_region ?_)
  refine aops_boxf rfl rfl rfl rfl rfl rfl rfl ?_
  repeat (first | refine aops_end ?_ | refine aops_p tok rfl rfl rfl rfl ?_ | refine acode_seq ?_ | refine acode_region ?_)
  refine aops_callx Try.func29 rfl rfl rfl rfl (rform_calls hg _) rfl rfl rfl ?_
  unfold tup2
  by_cases h : (formF g).2 = 0
  · obtain ⟨fo, hn⟩ := form_ok h
    generalize g.names.toNat = n at *
    rw [if_neg (by simp [h])] at hC
    generalize chkF g = c at *
    have hlt : ∀ r ∈ g.rules, r.left.toNat < n := fun r hr => by have := fo.left r hr; unfold isName at this; omega
    have hn2 : n ≤ 1000 := by have := fo.n1; omega
    have hn0 := fo.n0
    repeat' (first | refine aops_end ?_ | (refine aops_pn tok rfl rfl rfl rfl ?_ ?_ <;> intro e_) | refine aops_p tok rfl rfl rfl rfl ?_ | refine acode_it rfl ?_ | refine acode_if rfl ?_ | refine acode_seq ?_ | refine acode_region ?_ | refine acode_skip ?_ | refine then_n ?_)
    any_goals (exfalso; omega)
    refine aops_callx Try.func30 rfl rfl rfl rfl (rreach_calls hg h hn hn2 fo.st fo.left fo.sym _) rfl rfl rfl ?_
    repeat (first | refine aops_end ?_ | refine aops_p tok rfl rfl rfl rfl ?_ | refine acode_seq ?_ | refine acode_region ?_)
    refine aops_callx Try.func31 rfl rfl rfl rfl (productive_calls hg h hn hn2 fo.left fo.sym fo.len _) rfl rfl rfl ?_
    repeat (first | refine aops_end ?_ | refine aops_p tok rfl rfl rfl rfl ?_ | refine acode_seq ?_ | refine acode_region ?_)
    refine aops_callx Try.func32 rfl rfl rfl rfl (cyclic_calls (k := n - 1) hg h hn (by omega) hn2 fo.left fo.sym _) rfl rfl rfl ?_
    have hrl : (reachF g n).length = n := reachF_len hn
    have hpl : (prodF g n).length = n := by unfold prodF; rw [List.length_map]; exact (shortF_ok hlt).1
    have hcl : (cycF g n).length = n := by simp [cycF, diagT]
    have hu : ∀ i, useless g n i = (!((reachF g n).getD i false) || !((prodF g n).getD i false)) := fun _ => rfl
    generalize useless g n = us at *
    generalize reachF g n = R at *
    generalize prodF g n = P at *
    generalize cycF g n = C at *
    repeat (first | refine aops_end ?_ | refine aops_p tok rfl rfl rfl rfl ?_ | refine acode_seq ?_ | refine acode_region ?_ | refine acode_block ?_)
    refine acode_loopS (ι := Nat) (fun i => [(1, .pp (grC g)), (6, .psl n (bools R)), (7, .psl n (bools P)), (8, .psl n (bools C)), (9, .int .i64 i)]) (fun _ => M) (fun i => n - i) (fun i => i ≤ n ∧ (List.range i).any us = false) 0 ⟨Nat.zero_le _, rfl⟩ ⟨rfl, rfl, rfl, rfl, rfl, trivial⟩ rfl ?_
    rintro i ⟨hi, hno⟩
    repeat (first | refine aops_end ?_ | refine aops_p tok rfl rfl rfl rfl ?_ | refine acode_seq ?_ | refine acode_region ?_)
    refine acode_id rfl (fun e => ?_) (fun e => ?_)
    · have hil : i < n := by omega
      have hr := getD_at (l := R) (i := i) (by omega)
      have hp := getD_at (l := P) (i := i) (by omega)
      have hui := hu i
      have hyes : us i = true → c = 7 := fun hy => by
        rw [hC, if_pos (List.any_eq_true.2 ⟨i, by simpa using hil, hy⟩)]
      have hnext : us i = false → (List.range (i + 1)).any us = false := fun hy => by rw [List.range_succ, List.any_append, hno]; simp [hy]
      generalize R.getD i false = a at *
      generalize P.getD i false = b at *
      repeat (first | refine aops_p tok rfl rfl rfl rfl ?_ | refine acode_seq ?_ | refine acode_region ?_ | refine acode_block ?_ | refine acode_skip ?_ | refine then_n ?_)
      refine aops_ix tok [A.bool a] rfl rfl rfl rfl (by omega) (by omega) (by simp) (bools_at (j := i) (by simpa using hr)) rfl rfl rfl ?_
      cases a with
      | false =>
        rw [hyes (by rw [hui]; rfl)]
        repeat' (first | refine aops_end ?_ | refine aops_o rfl rfl rfl ?_ | refine aops_p tok rfl rfl rfl rfl ?_ | refine acode_it rfl ?_ | refine acode_seq ?_ | refine acode_region ?_)
        refine acode_ret ?_
        repeat (first | refine ret_then ?_ | refine ret_block ?_)
        exact ⟨_, ⟨⟨i, rfl⟩, rfl⟩, _, _, rfl, resOf_tmp rfl, resOf_tmp rfl⟩
      | true =>
        repeat' (refine aops_p tok rfl rfl rfl rfl ?_)
        refine aops_ix tok [A.bool b] rfl rfl rfl rfl (by omega) (by omega) (by simp) (bools_at (j := i) (by simpa using hp)) rfl rfl rfl ?_
        cases b with
        | false =>
          rw [hyes (by rw [hui]; rfl)]
          repeat' (first | refine aops_end ?_ | refine aops_p tok rfl rfl rfl rfl ?_ | refine acode_it rfl ?_ | refine acode_seq ?_ | refine acode_region ?_)
          refine acode_ret ?_
          repeat (first | refine ret_then ?_ | refine ret_block ?_)
          exact ⟨_, ⟨⟨i, rfl⟩, rfl⟩, _, _, rfl, resOf_tmp rfl, resOf_tmp rfl⟩
        | true =>
          repeat' (first | refine aops_end ?_ | refine aops_a tok rfl (by omega) (by omega) rfl rfl rfl ?_ | refine aops_p tok rfl rfl rfl rfl ?_ | refine acode_if rfl ?_ | refine acode_region ?_ | refine acode_skip ?_ | refine then_n ?_ | refine block_n ?_)
          exact ⟨i + 1, ⟨by omega, hnext (by rw [hui]; rfl)⟩, by omega, ⟨rfl, rfl, rfl, rfl, rfl, trivial⟩, rfl⟩
    · obtain rfl : n = i := by omega
      rw [hno, if_neg (by simp)] at hC
      refine acode_exit ?_
      repeat (first | refine exit_then ?_ | refine exit_here ?_ | refine then_n ?_)
      repeat (first | refine aops_end ?_ | refine aops_p tok rfl rfl rfl rfl ?_ | refine acode_seq ?_ | refine acode_region ?_ | refine acode_block ?_)
      refine acode_loopS (ι := Nat) (fun i => [(1, .pp (grC g)), (8, .psl n (bools C)), (10, .int .i64 i)]) (fun _ => M) (fun i => n - i) (fun i => i ≤ n ∧ (C.take i).any id = false) 0 ⟨Nat.zero_le _, by simp⟩ ⟨rfl, rfl, rfl, trivial⟩ rfl ?_
      rintro i ⟨hi, hno⟩
      repeat (first | refine aops_end ?_ | refine aops_p tok rfl rfl rfl rfl ?_ | refine acode_seq ?_ | refine acode_region ?_)
      refine acode_id rfl (fun e => ?_) (fun e => ?_)
      · have hil : i < n := by omega
        have hr := getD_at (l := C) (i := i) (by omega)
        generalize C.getD i false = a at *
        repeat (first | refine aops_p tok rfl rfl rfl rfl ?_ | refine acode_seq ?_ | refine acode_region ?_ | refine acode_block ?_ | refine acode_skip ?_ | refine then_n ?_)
        refine aops_ix tok [A.bool a] rfl rfl rfl rfl (by omega) (by omega) (by simp) (bools_at (j := i) (by simpa using hr)) rfl rfl rfl ?_
        cases a with
        | true =>
          have : C.any id = true := List.any_eq_true.2 ⟨true, List.mem_of_getElem? hr, rfl⟩
          rw [this, if_pos rfl] at hC
          rw [hC]
          repeat' (first | refine aops_end ?_ | refine aops_p tok rfl rfl rfl rfl ?_ | refine acode_it rfl ?_ | refine acode_seq ?_ | refine acode_region ?_)
          refine acode_ret ?_
          repeat (first | refine ret_then ?_ | refine ret_block ?_)
          exact ⟨_, ⟨⟨i, rfl⟩, rfl⟩, _, _, rfl, resOf_tmp rfl, resOf_tmp rfl⟩
        | false =>
          repeat' (first | refine aops_end ?_ | refine aops_a tok rfl (by omega) (by omega) rfl rfl rfl ?_ | refine aops_p tok rfl rfl rfl rfl ?_ | refine acode_if rfl ?_ | refine acode_region ?_ | refine acode_skip ?_ | refine then_n ?_ | refine block_n ?_)
          exact ⟨i + 1, ⟨by omega, by rw [List.take_add_one, hr, List.any_append, hno]; rfl⟩, by omega, ⟨rfl, rfl, rfl, trivial⟩, rfl⟩
      · obtain rfl : n = i := by omega
        rw [List.take_of_length_le (by omega)] at hno
        rw [hno, if_neg (by simp)] at hC
        rw [hC]
        refine acode_exit ?_
        repeat (first | refine exit_then ?_ | refine exit_here ?_ | refine then_n ?_)
        repeat (first | refine aops_end ?_ | refine aops_p tok rfl rfl rfl rfl ?_ | refine acode_seq ?_ | refine acode_region ?_)
        refine acode_ret ?_
        skip
        exact ⟨_, ⟨⟨-1, rfl⟩, rfl⟩, _, _, rfl, resOf_tmp rfl, resOf_tmp rfl⟩
  · rw [if_pos h] at hC
    rw [hC]
    generalize (formF g).2 = e at *
    generalize (formF g).1 = at' at *
    repeat' (first | refine aops_end ?_ | (refine aops_pn tok rfl rfl rfl rfl ?_ ?_ <;> intro e_) | refine aops_p tok rfl rfl rfl rfl ?_ | refine acode_it rfl ?_ | refine acode_if rfl ?_ | refine acode_seq ?_ | refine acode_region ?_ | refine acode_skip ?_ | refine then_n ?_)
    any_goals (exfalso; omega)
    refine acode_ret ?_
    repeat (refine ret_then ?_)
    exact ⟨_, ⟨⟨at', rfl⟩, rfl⟩, _, _, rfl, resOf_tmp rfl, resOf_tmp rfl⟩
end Go.Proofs.Ytbnhmioijeagiaa.Ab
/- Charts in plain terms. No condition. -/
set_option linter.unusedVariables false
set_option linter.unusedSimpArgs false
namespace Go.Proofs.Ytbnhmioijeagiaa.Ab
attribute [local irreducible] thenA inBlockA ACode AOps put IntKind.wrap

def tab (n : Nat) (f : Nat → Bool) : List Bool := (List.range (n + 1)).map f
theorem tab_len (n : Nat) (f : Nat → Bool) : (tab n f).length = n + 1 := by simp [tab]
theorem tab_get {n j : Nat} {f : Nat → Bool} (h : j ≤ n) : (tab n f)[j]? = some (f j) := by
  unfold tab; rw [List.getElem?_map, List.getElem?_range (by omega)]; rfl
theorem tab_getD {n j : Nat} {f : Nat → Bool} (h : j ≤ n) : (tab n f).getD j false = f j := by
  rw [List.getD_eq_getElem?_getD, tab_get h]; rfl
theorem tab_congr {n : Nat} {f h : Nat → Bool} (e : ∀ j, j ≤ n → f j = h j) : tab n f = tab n h :=
  List.map_congr_left fun j hj => e j (by have := List.mem_range.1 hj; omega)
theorem tab_set {n j : Nat} {f : Nat → Bool} {v : Bool} (h : j ≤ n) : (tab n f).set j v = tab n fun q => if q = j then v else f q := by
  apply List.ext_getElem?
  intro i
  rw [List.getElem?_set]
  by_cases hi : i ≤ n
  · rw [tab_get hi, tab_get hi]
    by_cases hij : j = i
    · subst hij; rw [if_pos rfl, if_pos (by rw [tab_len]; omega), if_pos rfl]
    · rw [if_neg hij, if_neg (fun e => hij e.symm)]
  · rw [List.getElem?_eq_none (by rw [tab_len]; omega), List.getElem?_eq_none (by rw [tab_len]; omega)]
    split
    · rw [if_neg (by rw [tab_len]; omega)]
    · rfl
theorem tab_false (n : Nat) : tab n (fun _ => false) = List.replicate (n + 1) false := by
  unfold tab; rw [List.map_const', List.length_range]
/-- Does a symbol lead from a place to another? -/
def chAt (n : Nat) (F : List (List Bool)) (a i j : Nat) : Bool := getM F (a * (n + 1) + i) j
def link (ks : List Int) (n : Nat) (F : List (List Bool)) (s : Int) (i j : Nat) : Bool :=
  if s < 0 then decide (j = i + 1) && (decide (i < n) && decide (ks.getD i 0 = -1 - s)) else decide (i ≤ j) && chAt n F s.toNat i j
def stepT (ks : List Int) (n : Nat) (F : List (List Bool)) (fr : Nat) (now : List Bool) (s : Int) (m j : Nat) : Bool :=
  (List.range m).any fun i => decide (fr ≤ i) && (now.getD i false && link ks n F s i j)
def stepB (ks : List Int) (n : Nat) (F : List (List Bool)) (fr : Nat) (now : List Bool) (s : Int) : List Bool := tab n (stepT ks n F fr now s (n + 1))
def row0 (n fr : Nat) : List Bool := tab n fun j => decide (j = fr)
def rowF (ks : List Int) (n : Nat) (F : List (List Bool)) (l : List Int) (fr : Nat) : List Bool := l.foldl (stepB ks n F fr) (row0 n fr)
theorem rowF_len (ks : List Int) (n : Nat) (F : List (List Bool)) (fr : Nat) : ∀ (l : List Int) (now : List Bool), now.length = n + 1 → (l.foldl (stepB ks n F fr) now).length = n + 1
  | [], now, h => h
  | s :: l, now, h => rowF_len ks n F fr l _ (tab_len _ _)
theorem stepT_zero {ks : List Int} {n : Nat} {F : List (List Bool)} {fr : Nat} {now : List Bool} {s : Int} {m : Nat} (h : m ≤ fr) (j : Nat) : stepT ks n F fr now s m j = false := by
  unfold stepT
  rw [List.any_eq_false]
  intro i hi
  have := List.mem_range.1 hi
  rw [decide_eq_false (by omega)]; simp
theorem stepT_succ {ks : List Int} {n : Nat} {F : List (List Bool)} {fr : Nat} {now : List Bool} {s : Int} {m : Nat} (h : fr ≤ m) (j : Nat) : stepT ks n F fr now s (m + 1) j = (stepT ks n F fr now s m j || (now.getD m false && link ks n F s m j)) := by
  unfold stepT
  rw [List.range_succ, List.any_append]; simp [h]

/-! ### how a chart lies -/
def rowsF (n : Nat) (F : List (List Bool)) (a m : Nat) : List A := (List.range m).map fun i => A.psl (n + 1) (bools (F.getD (a * (n + 1) + i) []))
def endsF (N n : Nat) (F : List (List Bool)) : List A := (List.range N).map fun a => A.psl (n + 1) (rowsF n F a (n + 1))
def rowsO (n : Nat) (bs : List Nat) (a m : Nat) : List A := (List.range m).map fun i => A.own (some (bs.getD (a * (n + 1) + i) 0)) (n + 1) (n + 1)
def endsO (N n : Nat) (bs : List Nat) : List A := (List.range N).map fun a => A.psl (n + 1) (rowsO n bs a (n + 1))
def chL (g : Gr) (ks : List Int) (x : A) : List A := [.int .i64 g.names, .int .i64 g.kinds, .int .i64 g.start, .psl g.rules.length (encs ruC g.rules), .psl g.forbid.length (encs f3C g.forbid), .psl g.rc.length (ints g.rc), .psl g.kc.length (ints g.kc), .psl ks.length (ints ks), x]
def chC (g : Gr) (ks : List Int) (N n : Nat) (F : List (List Bool)) : List A := chL g ks (.psl N (endsF N n F))
theorem range_at {m i : Nat} {f : Nat → A} (h : i < m) : [f i] <+: ((List.range m).map f).drop (i * 1) := by
  rw [Nat.mul_one, List.drop_eq_getElem_cons (by simpa using h)]
  refine ⟨((List.range m).map f).drop (i + 1), ?_⟩
  simp
theorem ends_at {N n : Nat} {F : List (List Bool)} {a : Int} (h0 : 0 ≤ a) (h : a.toNat < N) : [A.psl (n + 1) (rowsF n F a.toNat (n + 1))] <+: (endsF N n F).drop (a.toNat * 1) := range_at (f := fun a => A.psl (n + 1) (rowsF n F a (n + 1))) h
theorem rows_at {n m : Nat} {F : List (List Bool)} {a i : Nat} (h : i < m) : [A.psl (n + 1) (bools (F.getD (a * (n + 1) + i) []))] <+: (rowsF n F a m).drop (i * 1) := range_at (f := fun i => A.psl (n + 1) (bools (F.getD (a * (n + 1) + i) []))) h
theorem VwL.map' {V : List Ob} {f h : Nat → A} : ∀ (l : List Nat), (∀ i ∈ l, Vw V (f i) (h i)) → VwL V (l.map f) (l.map h)
  | [], _ => .nil
  | i :: l, e => .cons (e i (by simp)) (VwL.map' l fun j hj => e j (by simp [hj]))
theorem idx_lt {N n a i : Nat} (ha : a < N) (hi : i ≤ n) : a * (n + 1) + i < N * (n + 1) := by
  have h1 : (a + 1) * (n + 1) ≤ N * (n + 1) := Nat.mul_le_mul_right _ ha
  have h2 : (a + 1) * (n + 1) = a * (n + 1) + (n + 1) := Nat.succ_mul _ _
  omega
theorem vw_ends {V : List Ob} {N n : Nat} {bs : List Nat} {F : List (List Bool)} (hb : bs.length = N * (n + 1)) (hF : FOk (N * (n + 1)) n F) (hV : ∀ o ∈ obsZ n bs F, o ∈ V) : VwL V (endsO N n bs) (endsF N n F) := by
  refine VwL.map' _ fun a ha => .psl (VwL.map' _ fun i hi => ?_)
  have ha := List.mem_range.1 ha
  have hi := List.mem_range.1 hi
  have hlt := idx_lt (n := n) (i := i) ha (by omega)
  obtain ⟨x, hx, hxl⟩ := fok_at hF hlt
  have hbx : bs[a * (n + 1) + i]? = some (bs.getD (a * (n + 1) + i) 0) := by rw [List.getD_eq_getElem?_getD, List.getElem?_eq_getElem (by omega)]; rfl
  have hxd : F.getD (a * (n + 1) + i) [] = x := by rw [List.getD_eq_getElem?_getD, hx]; rfl
  rw [hxd]
  exact .own (sz := 1) (room := (n + 1) * 1) (hV _ (List.mem_of_getElem? (obsZ_get hbx hx))) rfl (by rw [bools_len, hxl, Nat.mul_one]) (by decide) (VwL.rfl' _)
end Go.Proofs.Ytbnhmioijeagiaa.Ab
/- Chapter 18's reference, where a row of symbols may end: the walk. No condition. -/
set_option linter.unusedVariables false
set_option linter.unusedSimpArgs false
namespace Go.Proofs.Ytbnhmioijeagiaa.Ab
attribute [local irreducible] thenA inBlockA ACode AOps put IntKind.wrap

set_option maxHeartbeats 16000000 in
theorem row_calls {g : Gr} {ks l : List Int} {N n fr : Nat} {F : List (List Bool)} (hN : g.names = N) (hks : ks.length = n) (hn : n ≤ 2000) (hk : g.kinds ≤ 1000) (hF : FOk (N * (n + 1)) n F) (hl : l.length ≤ 9223372036854775807) (hsy : ∀ s ∈ l, isSym g s) (hfr : fr ≤ n) (M : List Ob) :
    ACalls Try.prog 71 [.pp (chC g ks N n F), .psl l.length (ints l), .int .i64 fr] M (fun r M' => ∃ b, r = .own (some b) (n + 1) (n + 1) ∧ M' = ⟨some b, (n + 1) * 1, bools (rowF ks n F l fr)⟩ :: M) := by
  refine acalls_of_code 104 Try.func71 rfl rfl rfl ?_
  repeat (first | refine aops_end ?_ | refine aops_a tok rfl (by omega) (by omega) rfl rfl rfl ?_ | refine aops_p tok rfl rfl rfl rfl ?_ | refine acode_seq ?_ | refine acode_region ?_)
  refine aops_mk tok (n + 1) rfl rfl rfl rfl (by omega) rfl (by show _ * 1 ≤ _; omega) (by omega) rfl rfl rfl fun b0 => ?_
  repeat (first | refine aops_end ?_ | refine aops_p tok rfl rfl rfl rfl ?_ | refine acode_seq ?_ | refine acode_region ?_)
  refine aops_ixo tok rfl rfl rfl rfl (by omega) (by omega) rfl rfl rfl ?_
  refine aops_sto tok (bools (row0 n fr)) rfl rfl rfl rfl rfl (by show fr * 1 + 1 ≤ (zerosA [A.bool false] (n + 1)).length; rw [bools_zeros, bools_len, List.length_replicate]; omega) ?_ rfl rfl ?_
  · show (zerosA [A.bool false] (n + 1)).take (fr * 1) ++ ([A.bool true] ++ (zerosA [A.bool false] (n + 1)).drop (fr * 1 + 1)) = _
    rw [bools_zeros, bools_set (by simp; omega), ← tab_false, tab_set hfr]
    exact congrArg bools (tab_congr fun j _ => by by_cases h : j = fr <;> simp [h])
  have hfin : rowF ks n F l fr = l.foldl (stepB ks n F fr) (row0 n fr) := rfl
  have h0l : (row0 n fr).length = n + 1 := tab_len _ _
  generalize rowF ks n F l fr = fin at *
  generalize row0 n fr = o0 at *
  repeat (first | refine aops_end ?_ | refine aops_p tok rfl rfl rfl rfl ?_ | refine acode_seq ?_ | refine acode_region ?_ | refine acode_block ?_)
  refine acode_loopS (ι := Nat × Nat × List Bool) (fun p => [(0, .pp (chC g ks N n F)), (1, .psl l.length (ints l)), (2, .int .i64 fr), (7, .int .i64 n), (8, .own (some p.2.1) (n + 1) (n + 1)), (9, .int .i64 p.1)]) (fun p => ⟨some p.2.1, (n + 1) * 1, bools p.2.2⟩ :: M) (fun p => l.length - p.1) (fun p => p.1 ≤ l.length ∧ p.2.2.length = n + 1 ∧ (l.drop p.1).foldl (stepB ks n F fr) p.2.2 = fin) (0, b0, o0) ⟨Nat.zero_le _, h0l, hfin.symm⟩ ⟨rfl, rfl, rfl, by rw [← hks]; rfl, rfl, rfl, trivial⟩ rfl ?_
  clear hfin h0l
  rintro ⟨q, b1, now⟩ ⟨hq, hnl, hfold⟩
  simp only at hq hnl hfold ⊢
  repeat (first | refine aops_end ?_ | refine aops_p tok rfl rfl rfl rfl ?_ | refine acode_seq ?_ | refine acode_region ?_)
  refine acode_id rfl (fun e => ?_) (fun e => ?_)
  · have hql : q < l.length := by omega
    obtain ⟨s, hs⟩ : ∃ s, l[q]? = some s := ⟨l[q], List.getElem?_eq_getElem hql⟩
    have hds : l.drop q = s :: l.drop (q + 1) := by
      rw [List.drop_eq_getElem_cons hql]
      rw [List.getElem?_eq_getElem hql] at hs
      rw [Option.some.inj hs]
    have hss := hsy s (List.mem_of_getElem? hs)
    rw [hds, List.foldl_cons] at hfold
    repeat (first | refine aops_a tok rfl (by omega) (by omega) rfl rfl rfl ?_ | refine aops_p tok rfl rfl rfl rfl ?_ | refine acode_seq ?_ | refine acode_region ?_ | refine acode_block ?_ | refine acode_skip ?_ | refine then_n ?_)
    refine aops_mk tok (n + 1) rfl rfl rfl rfl (by omega) rfl (by show _ * 1 ≤ _; omega) (by omega) rfl rfl rfl fun b2 => ?_
    repeat (first | refine aops_end ?_ | refine aops_p tok rfl rfl rfl rfl ?_ | refine acode_seq ?_ | refine acode_region ?_ | refine acode_block ?_)
    refine acode_loopS (ι := Nat) (fun i => [(0, .pp (chC g ks N n F)), (1, .psl l.length (ints l)), (2, .int .i64 fr), (7, .int .i64 n), (8, .own (some b1) (n + 1) (n + 1)), (9, .int .i64 q), (10, .own (some b2) (n + 1) (n + 1)), (11, .int .i64 i)]) (fun i => ⟨some b2, (n + 1) * 1, bools (tab n (stepT ks n F fr now s i))⟩ :: ⟨some b1, (n + 1) * 1, bools now⟩ :: M) (fun i => n + 1 - i) (fun i => fr ≤ i ∧ i ≤ n + 1) fr ⟨Nat.le_refl _, by omega⟩ ⟨rfl, rfl, rfl, rfl, rfl, rfl, rfl, rfl, trivial⟩ (by rw [tab_congr (fun j _ => stepT_zero (Nat.le_refl fr) j), tab_false, ← bools_zeros]; rfl) ?_
    rintro i ⟨hi0, hi1⟩
    repeat (first | refine aops_end ?_ | refine aops_p tok rfl rfl rfl rfl ?_ | refine acode_seq ?_ | refine acode_region ?_)
    refine acode_id rfl (fun e1 => ?_) (fun e1 => ?_)
    · have hin : i ≤ n := by omega
      have hsu := fun j => stepT_succ (ks := ks) (n := n) (F := F) (now := now) (s := s) hi0 j
      have hat := getD_at (l := now) (i := i) (by omega)
      generalize now.getD i false = v at *
      repeat (first | refine aops_p tok rfl rfl rfl rfl ?_ | refine acode_seq ?_ | refine acode_region ?_ | refine acode_block ?_ | refine acode_skip ?_ | refine then_n ?_)
      refine aops_ixo tok rfl rfl rfl rfl (by omega) (by omega) rfl rfl rfl ?_
      refine aops_ld tok 1 (y := .bool v) rfl rfl rfl rfl (by rw [headed_eq]; exact bools_get (j := i) hat) rfl rfl rfl ?_
      cases v with
      | false =>
        have hsame : tab n (stepT ks n F fr now s (i + 1)) = tab n (stepT ks n F fr now s i) := tab_congr fun j _ => by rw [hsu]; simp
        repeat' (first | refine aops_end ?_ | refine aops_p tok rfl rfl rfl rfl ?_ | refine acode_it rfl ?_)
        refine acode_exit ?_
        repeat (first | refine exit_then ?_ | refine exit_here ?_ | refine then_n ?_)
        repeat (first | refine aops_end ?_ | refine aops_a tok rfl (by omega) (by omega) rfl rfl rfl ?_ | refine aops_p tok rfl rfl rfl rfl ?_ | refine acode_region ?_)
        exact ⟨i + 1, ⟨by omega, by omega⟩, by omega, ⟨rfl, rfl, rfl, rfl, rfl, rfl, rfl, rfl, trivial⟩, by rw [hsame]⟩
      | true =>
        repeat' (first | refine aops_end ?_ | refine aops_p tok rfl rfl rfl rfl ?_ | refine acode_if rfl ?_ | refine acode_seq ?_ | refine acode_region ?_ | refine acode_skip ?_ | refine then_n ?_)
        refine aops_ix tok [A.int .i64 s] rfl rfl rfl rfl (by omega) (by omega) (by simp) (ints_at (j := q) (by simpa using hs)) rfl rfl rfl ?_
        by_cases hs0 : s < 0
        · have hsk : isKind g s := hss.resolve_right (fun h1 => by unfold isName at h1; omega)
          obtain ⟨k0, k1⟩ := id hsk
          have hkt : i < n → ks[i]? = some (ks.getD i 0) := fun h => intD_at (l := ks) (i := i) (by omega)
          have hlk : ∀ j, link ks n F s i j = (decide (j = i + 1) && (decide (i < n) && decide (ks.getD i 0 = -1 - s))) := fun j => by unfold link; rw [if_pos hs0]
          generalize hkv : ks.getD i 0 = kv at *
          have hno : ¬ (i < n ∧ kv = -1 - s) → tab n (stepT ks n F fr now s (i + 1)) = tab n (stepT ks n F fr now s i) := fun h => tab_congr fun j _ => by
            rw [hsu, hlk]
            have : (decide (i < n) && decide (kv = -1 - s)) = false := by
              apply Bool.eq_false_iff.2; intro h2; simp only [Bool.and_eq_true, decide_eq_true_eq] at h2; exact h h2
            rw [this]; simp
          have hyes : (i < n ∧ kv = -1 - s) → (tab n (stepT ks n F fr now s i)).set (i + 1) true = tab n (stepT ks n F fr now s (i + 1)) := fun h => by
            rw [tab_set (by omega)]
            exact tab_congr fun j _ => by rw [hsu, hlk, decide_eq_true h.1, decide_eq_true h.2]; by_cases hj : j = i + 1 <;> simp [hj]
          repeat' (first | refine aops_end ?_ | refine aops_pbt tok rfl (by first | omega | decide) rfl rfl rfl ?_ | refine aops_p tok rfl rfl rfl rfl ?_ | refine acode_it rfl ?_ | refine acode_seq ?_)
          refine acode_drawT 18 mixed (by kernel_rfl) (by kernel_rfl) ?_
          repeat' (first | refine seqT_o rfl rfl rfl ?_ | (refine seqT_pd tok rfl rfl rfl rfl ?_ ?_ <;> intro e_) | refine seqT_p tok rfl rfl rfl rfl ?_)
          · have hin2 : i < n := by omega
            refine seqT_ix tok [A.int .i64 kv] rfl rfl rfl rfl (by omega) (by omega) (by simp) (ints_at (j := i) (by simpa using hkt hin2)) rfl rfl rfl ?_
            repeat (refine seqT_p tok rfl rfl rfl rfl ?_)
            refine seqT_ix tok [A.int .i64 s] rfl rfl rfl rfl (by omega) (by omega) (by simp) (ints_at (j := q) (by simpa using hs)) rfl rfl rfl ?_
            repeat' (first | refine seqT_a tok rfl (by omega) (by omega) rfl rfl rfl ?_ | (refine seqT_pd tok rfl rfl rfl rfl ?_ ?_ <;> intro e_) | refine seqT_p tok rfl rfl rfl rfl ?_)
            · refine SeqT.done ?_
              repeat' (first | refine aops_end ?_ | refine aops_a tok rfl (by omega) (by omega) rfl rfl rfl ?_ | refine aops_p tok rfl rfl rfl rfl ?_ | refine acode_it rfl ?_ | refine acode_region ?_)
              refine aops_ixo tok rfl rfl rfl rfl (by omega) (by omega) rfl rfl rfl ?_
              refine aops_sto tok (bools (tab n (stepT ks n F fr now s (i + 1)))) rfl rfl rfl rfl rfl (by rw [bools_len, tab_len]; show (i + 1 : Int).toNat * 1 + 1 ≤ _; omega) (by rw [← hyes ⟨hin2, e_⟩]; exact bools_set (j := i + 1) (by rw [tab_len]; omega) true) rfl rfl ?_
              repeat (refine aops_end ?_)
              refine acode_exit ?_
              repeat (first | refine exit_then ?_ | refine exit_here ?_ | refine then_n ?_)
              repeat (first | refine aops_end ?_ | refine aops_a tok rfl (by omega) (by omega) rfl rfl rfl ?_ | refine aops_p tok rfl rfl rfl rfl ?_ | refine acode_region ?_)
              exact ⟨i + 1, ⟨by omega, by omega⟩, by omega, ⟨rfl, rfl, rfl, rfl, rfl, rfl, rfl, rfl, trivial⟩, rfl⟩
            · refine SeqT.done ?_
              repeat' (first | refine aops_end ?_ | refine acode_if rfl ?_ | refine acode_skip ?_ | refine then_n ?_)
              refine acode_exit ?_
              repeat (first | refine exit_then ?_ | refine exit_here ?_ | refine then_n ?_)
              repeat (first | refine aops_end ?_ | refine aops_a tok rfl (by omega) (by omega) rfl rfl rfl ?_ | refine aops_p tok rfl rfl rfl rfl ?_ | refine acode_region ?_)
              exact ⟨i + 1, ⟨by omega, by omega⟩, by omega, ⟨rfl, rfl, rfl, rfl, rfl, rfl, rfl, rfl, trivial⟩, by rw [hno (fun h => e_ h.2)]⟩
          · refine SeqT.done ?_
            repeat' (first | refine aops_end ?_ | refine acode_if rfl ?_ | refine acode_skip ?_ | refine then_n ?_)
            refine acode_exit ?_
            repeat (first | refine exit_then ?_ | refine exit_here ?_ | refine then_n ?_)
            repeat (first | refine aops_end ?_ | refine aops_a tok rfl (by omega) (by omega) rfl rfl rfl ?_ | refine aops_p tok rfl rfl rfl rfl ?_ | refine acode_region ?_)
            exact ⟨i + 1, ⟨by omega, by omega⟩, by omega, ⟨rfl, rfl, rfl, rfl, rfl, rfl, rfl, rfl, trivial⟩, by rw [hno (fun h => by omega)]⟩
        · have hname : isName g s := hss.resolve_left (fun h1 => by unfold isKind at h1; omega)
          obtain ⟨n0, n1⟩ := id hname
          have hsN : s.toNat < N := by omega
          have hlk : ∀ j, link ks n F s i j = (decide (i ≤ j) && chAt n F s.toNat i j) := fun j => by unfold link; rw [if_neg hs0]
          have hlt := idx_lt (n := n) hsN hin
          obtain ⟨x, hx, hxl⟩ := fok_at hF hlt
          have hxd : F.getD (s.toNat * (n + 1) + i) [] = x := by rw [List.getD_eq_getElem?_getD, hx]; rfl
          have hini : tab n (stepT ks n F fr now s i) = tab n fun u => stepT ks n F fr now s i u || (decide (i ≤ u ∧ u < i) && chAt n F s.toNat i u) := tab_congr fun u _ => by rw [decide_eq_false (show ¬ (i ≤ u ∧ u < i) by omega), Bool.false_and, Bool.or_false]
          repeat' (first | refine aops_end ?_ | refine aops_pbf tok rfl (by first | omega | decide) rfl rfl rfl ?_ | refine aops_p tok rfl rfl rfl rfl ?_ | refine acode_if rfl ?_ | refine acode_seq ?_ | refine acode_region ?_ | refine acode_block ?_ | refine acode_skip ?_ | refine then_n ?_)
          refine acode_loopS (ι := Nat) (fun j => [(0, .pp (chC g ks N n F)), (1, .psl l.length (ints l)), (2, .int .i64 fr), (7, .int .i64 n), (8, .own (some b1) (n + 1) (n + 1)), (9, .int .i64 q), (10, .own (some b2) (n + 1) (n + 1)), (11, .int .i64 i), (12, .int .i64 j)]) (fun j => ⟨some b2, (n + 1) * 1, bools (tab n fun u => stepT ks n F fr now s i u || (decide (i ≤ u ∧ u < j) && chAt n F s.toNat i u))⟩ :: ⟨some b1, (n + 1) * 1, bools now⟩ :: M) (fun j => n + 1 - j) (fun j => i ≤ j ∧ j ≤ n + 1) i ⟨Nat.le_refl _, by omega⟩ ⟨rfl, rfl, rfl, rfl, rfl, rfl, rfl, rfl, rfl, trivial⟩ (by rw [hini]) ?_
          rintro j ⟨hj0, hj1⟩
          repeat (first | refine aops_end ?_ | refine aops_p tok rfl rfl rfl rfl ?_ | refine acode_seq ?_ | refine acode_region ?_)
          refine acode_id rfl (fun e2 => ?_) (fun e2 => ?_)
          · have hjn : j ≤ n := by omega
            obtain ⟨c, hc⟩ : ∃ c, x[j]? = some c := ⟨x[j]'(by omega), List.getElem?_eq_getElem (by omega)⟩
            have hch : chAt n F s.toNat i j = c := getM_of hx hc
            have hcur : (tab n fun u => stepT ks n F fr now s i u || (decide (i ≤ u ∧ u < j) && chAt n F s.toNat i u))[j]? = some (stepT ks n F fr now s i j) := by
              rw [tab_get hjn, decide_eq_false (show ¬ (i ≤ j ∧ j < j) by omega), Bool.false_and, Bool.or_false]
            have hset : (tab n fun u => stepT ks n F fr now s i u || (decide (i ≤ u ∧ u < j) && chAt n F s.toNat i u)).set j (stepT ks n F fr now s i j || c) = tab n fun u => stepT ks n F fr now s i u || (decide (i ≤ u ∧ u < j + 1) && chAt n F s.toNat i u) := by
              rw [tab_set hjn]
              exact tab_congr fun u _ => by
                by_cases hu : u = j
                · subst hu; rw [if_pos rfl, decide_eq_true (show i ≤ u ∧ u < u + 1 by omega), hch, Bool.true_and]
                · rw [if_neg hu, show decide (i ≤ u ∧ u < j + 1) = decide (i ≤ u ∧ u < j) by congr 1; apply propext; omega]
            generalize hT : stepT ks n F fr now s i j = a at *
            generalize hU : (tab n fun u => stepT ks n F fr now s i u || (decide (i ≤ u ∧ u < j) && chAt n F s.toNat i u)) = U at *
            have hUl : U.length = n + 1 := by rw [← hU]; exact tab_len _ _
            repeat (first | refine acode_seq ?_ | refine acode_block ?_ | refine acode_skip ?_ | refine then_n ?_)
            refine acode_drawT 24 mixed (by kernel_rfl) (by kernel_rfl) ?_
            repeat (refine seqT_p tok rfl rfl rfl rfl ?_)
            refine seqT_ixo tok rfl rfl rfl rfl (by omega) (by omega) rfl rfl rfl ?_
            refine seqT_ld tok 0 (y := .bool a) rfl rfl rfl rfl (by rw [headed_eq]; exact bools_get (j := j) hcur) rfl rfl rfl ?_
            cases a with
            | true =>
              repeat (first | refine seqT_o rfl rfl rfl ?_ | refine seqT_p tok rfl rfl rfl rfl ?_)
              refine SeqT.done ?_
              refine aops_ixo tok rfl rfl rfl rfl (by omega) (by omega) rfl rfl rfl ?_
              refine aops_sto tok _ rfl rfl rfl rfl rfl (by rw [bools_len, hUl]; show j * 1 + 1 ≤ _; omega) (bools_set (j := j) (by omega) true) rfl rfl ?_
              repeat (first | refine aops_end ?_ | refine aops_endb ?_ | refine aops_a tok rfl (by omega) (by omega) rfl rfl rfl ?_ | refine aops_p tok rfl rfl rfl rfl ?_ | refine acode_region ?_ | refine then_n ?_)
              exact ⟨j + 1, ⟨by omega, by omega⟩, by omega, ⟨rfl, rfl, rfl, rfl, rfl, rfl, rfl, rfl, rfl, trivial⟩, by rw [← hset]; rfl⟩
            | false =>
              repeat (refine seqT_p tok rfl rfl rfl rfl ?_)
              refine seqT_ix tok [A.int .i64 s] rfl rfl rfl rfl (by omega) (by omega) (by simp) (ints_at (j := q) (by simpa using hs)) rfl rfl rfl ?_
              repeat (refine seqT_p tok rfl rfl rfl rfl ?_)
              refine seqT_ix tok [A.psl (n + 1) (rowsF n F s.toNat (n + 1))] rfl rfl rfl rfl n0 (by omega) (by simp) (ends_at n0 hsN) rfl rfl rfl ?_
              repeat (refine seqT_p tok rfl rfl rfl rfl ?_)
              refine seqT_ix tok [A.psl (n + 1) (bools x)] rfl rfl rfl rfl (by omega) (by omega) (by simp) (by rw [← hxd]; exact rows_at (i := i) (by omega)) rfl rfl rfl ?_
              repeat (refine seqT_p tok rfl rfl rfl rfl ?_)
              refine seqT_ix tok [A.bool c] rfl rfl rfl rfl (by omega) (by omega) (by simp) (bools_at (j := j) (by simpa using hc)) rfl rfl rfl ?_
              repeat (refine seqT_p tok rfl rfl rfl rfl ?_)
              refine SeqT.done ?_
              refine aops_ixo tok rfl rfl rfl rfl (by omega) (by omega) rfl rfl rfl ?_
              refine aops_sto tok _ rfl rfl rfl rfl rfl (by rw [bools_len, hUl]; show j * 1 + 1 ≤ _; omega) (bools_set (j := j) (by omega) c) rfl rfl ?_
              repeat (first | refine aops_end ?_ | refine aops_endb ?_ | refine aops_a tok rfl (by omega) (by omega) rfl rfl rfl ?_ | refine aops_p tok rfl rfl rfl rfl ?_ | refine acode_region ?_ | refine then_n ?_)
              exact ⟨j + 1, ⟨by omega, by omega⟩, by omega, ⟨rfl, rfl, rfl, rfl, rfl, rfl, rfl, rfl, rfl, trivial⟩, by rw [← hset]; rfl⟩
          · have hje : j = n + 1 := by omega
            subst hje
            have hend : (tab n fun u => stepT ks n F fr now s i u || (decide (i ≤ u ∧ u < n + 1) && chAt n F s.toNat i u)) = tab n (stepT ks n F fr now s (i + 1)) := tab_congr fun u hu => by
              rw [hsu, hlk, Bool.true_and, show decide (i ≤ u ∧ u < n + 1) = decide (i ≤ u) by congr 1; apply propext; omega]
            rw [hend]
            refine acode_exit ?_
            repeat (first | refine exit_then ?_ | refine exit_here ?_ | refine then_n ?_ | refine block_n ?_)
            repeat (first | refine aops_end ?_ | refine aops_a tok rfl (by omega) (by omega) rfl rfl rfl ?_ | refine aops_p tok rfl rfl rfl rfl ?_ | refine acode_region ?_)
            exact ⟨i + 1, ⟨by omega, by omega⟩, by omega, ⟨rfl, rfl, rfl, rfl, rfl, rfl, rfl, rfl, trivial⟩, rfl⟩
    · have hie : i = n + 1 := by omega
      subst hie
      refine acode_exit ?_
      repeat (first | refine exit_then ?_ | refine exit_here ?_ | refine then_n ?_)
      refine acode_drop 1 ?_
      repeat (first | refine aops_end ?_ | refine aops_endb ?_ | refine aops_a tok rfl (by omega) (by omega) rfl rfl rfl ?_ | refine aops_p tok rfl rfl rfl rfl ?_ | refine acode_region ?_ | refine then_n ?_)
      exact ⟨(q + 1, b2, stepB ks n F fr now s), ⟨by simp; omega, tab_len _ _, hfold⟩, by simp; omega, ⟨rfl, rfl, rfl, rfl, rfl, rfl, trivial⟩, rfl⟩
  · obtain rfl : q = l.length := by omega
    rw [List.drop_length, List.foldl_nil] at hfold
    subst hfold
    refine acode_exit ?_
    repeat (first | refine exit_then ?_ | refine exit_here ?_ | refine then_n ?_)
    repeat (first | refine aops_end ?_ | refine aops_p tok rfl rfl rfl rfl ?_ | refine acode_seq ?_ | refine acode_region ?_)
    refine acode_ret ?_
    skip
    exact ⟨_, ⟨b1, rfl, rfl⟩, resOf_tmp rfl⟩
end Go.Proofs.Ytbnhmioijeagiaa.Ab
/- Sets joined: pulled out of Set2, Set4, Set9, SetB (printed by genchk.py). No condition. -/
set_option linter.unusedVariables false
set_option linter.unusedSimpArgs false
namespace Go.Proofs.Ytbnhmioijeagiaa.Ab
attribute [local irreducible] thenA inBlockA ACode AOps put IntKind.wrap

def orL (o f : List Bool) : List Bool := (List.range o.length).map fun i => o.getD i false || f.getD i false
def cameL (o f : List Bool) : Bool := (List.range o.length).any fun i => f.getD i false && !o.getD i false
def orT (o f : List Bool) (q : Nat) : List Bool := (List.range o.length).map fun i => if i < q then o.getD i false || f.getD i false else o.getD i false
def cameT (o f : List Bool) (q : Nat) : Bool := (List.range q).any fun i => f.getD i false && !o.getD i false
theorem orT_len (o f : List Bool) (q : Nat) : (orT o f q).length = o.length := by simp [orT]
theorem orT_zero (o f : List Bool) : orT o f 0 = o := by
  apply List.ext_getElem?
  intro i
  by_cases h : i < o.length
  · simp [orT, List.getElem?_range h, List.getD_eq_getElem?_getD, List.getElem?_eq_getElem h]
  · rw [List.getElem?_eq_none (by simp [orT]; omega), List.getElem?_eq_none (by omega)]
theorem orT_all (o f : List Bool) : orT o f o.length = orL o f := by
  apply List.map_congr_left
  intro i hi
  rw [if_pos (by simpa using hi)]
theorem orT_get {o f : List Bool} {q i : Nat} (h : i < o.length) : (orT o f q)[i]? = some (if i < q then o.getD i false || f.getD i false else o.getD i false) := by simp [orT, List.getElem?_range h]
theorem orT_succ {o f : List Bool} {q : Nat} (h : q < o.length) : (orT o f q).set q (o.getD q false || f.getD q false) = orT o f (q + 1) := by
  apply List.ext_getElem?
  intro i
  rw [List.getElem?_set]
  by_cases hi : i < o.length
  · rw [orT_get hi, orT_get hi]
    by_cases e : q = i
    · subst e; rw [if_pos rfl, if_pos (by rw [orT_len]; exact h), if_pos (by omega)]
    · rw [if_neg e]
      by_cases h2 : i < q
      · rw [if_pos h2, if_pos (by omega)]
      · rw [if_neg h2, if_neg (by omega)]
  · have e : q ≠ i := by omega
    rw [if_neg e, List.getElem?_eq_none (by rw [orT_len]; omega), List.getElem?_eq_none (by rw [orT_len]; omega)]
theorem cameT_succ (o f : List Bool) (q : Nat) : cameT o f (q + 1) = (cameT o f q || (f.getD q false && !o.getD q false)) := by
  simp [cameT, List.range_succ]
theorem orL_len (o f : List Bool) : (orL o f).length = o.length := by simp [orL]
theorem cnt_le : ∀ (a b : List Bool), a.length = b.length → (∀ i, a.getD i true = true → b.getD i true = true) → b.count false ≤ a.count false ∧ ((∃ i, a.getD i true = false ∧ b.getD i true = true) → b.count false < a.count false)
  | [], [], _, _ => ⟨Nat.le_refl _, fun ⟨i, h, _⟩ => by simp at h⟩
  | [], _ :: _, h, _ => by simp at h
  | _ :: _, [], h, _ => by simp at h
  | x :: a, y :: b, hl, h => by
    have h0 := h 0
    simp only [List.getD_cons_zero] at h0
    obtain ⟨i1, i2⟩ := cnt_le a b (by simpa using hl) (fun i => by simpa only [List.getD_cons_succ] using h (i + 1))
    constructor
    · cases x <;> cases y <;> simp_all <;> omega
    · rintro ⟨i, g1, g2⟩
      cases i with
      | zero =>
        simp only [List.getD_cons_zero] at g1 g2
        subst g1; subst g2
        simp; omega
      | succ i =>
        simp only [List.getD_cons_succ] at g1 g2
        have := i2 ⟨i, g1, g2⟩
        cases x <;> cases y <;> simp_all <;> omega
theorem orL_get {o f : List Bool} {i : Nat} (h : i < o.length) : (orL o f)[i]? = some (o.getD i false || f.getD i false) := by simp [orL, List.getElem?_range h]
theorem orL_getD {o f : List Bool} {i : Nat} (h : i < o.length) (d : Bool) : (orL o f).getD i d = (o.getD i false || f.getD i false) := by
  rw [List.getD_eq_getElem?_getD, orL_get h]; rfl
theorem getD_lt {o : List Bool} {i : Nat} (h : i < o.length) (d e : Bool) : o.getD i d = o.getD i e := by
  rw [List.getD_eq_getElem?_getD, List.getD_eq_getElem?_getD, List.getElem?_eq_getElem h]; rfl
theorem orL_cnt (o f : List Bool) : (orL o f).count false ≤ o.count false ∧ (cameL o f = true → (orL o f).count false < o.count false) := by
  obtain ⟨h1, h2⟩ := cnt_le o (orL o f) (by rw [orL_len]) (fun i h => by
    by_cases hi : i < o.length
    · rw [orL_getD hi, getD_lt hi false true, h]; rfl
    · rw [List.getD_eq_getElem?_getD, List.getElem?_eq_none (by rw [orL_len]; omega)]; rfl)
  refine ⟨h1, fun h => h2 ?_⟩
  obtain ⟨i, hi, hx⟩ := List.any_eq_true.1 h
  have hi' : i < o.length := by simpa using hi
  simp only [Bool.and_eq_true, Bool.not_eq_true'] at hx
  exact ⟨i, by rw [getD_lt hi' true false]; exact hx.2, by rw [orL_getD hi', hx.1]; simp⟩
def totF (F : List (List Bool)) : Nat := (F.map fun x => x.count false).sum
theorem totF_set : ∀ (F : List (List Bool)) (s : Nat) (x y : List Bool), F[s]? = some x → totF (F.set s y) + x.count false = totF F + y.count false
  | [], s, x, y, h => by simp at h
  | z :: F, 0, x, y, h => by
    simp at h; subst h
    simp only [totF, List.set_cons_zero, List.map_cons, List.sum_cons]; omega
  | z :: F, s + 1, x, y, h => by
    have := totF_set F s x y (by simpa using h)
    simp only [totF, List.set_cons_succ, List.map_cons, List.sum_cons] at this ⊢; omega
def joinS (s : Nat) (f : List Bool) (x : List (List Bool) × Bool) : List (List Bool) × Bool := (x.1.set s (orL (x.1.getD s []) f), cameL (x.1.getD s []) f || x.2)
theorem joinS_len (s : Nat) (f : List Bool) (x : List (List Bool) × Bool) : (joinS s f x).1.length = x.1.length := by simp [joinS]
theorem joinS_all {m : Nat} (s : Nat) (f : List Bool) (x : List (List Bool) × Bool) (h : ∀ y ∈ x.1, y.length = m) : ∀ y ∈ (joinS s f x).1, y.length = m := by
  intro y hy
  by_cases hs : s < x.1.length
  · rcases List.mem_or_eq_of_mem_set hy with h1 | rfl
    · exact h y h1
    · rw [orL_len, List.getD_eq_getElem?_getD, List.getElem?_eq_getElem hs]; exact h _ (List.getElem_mem hs)
  · simp only [joinS] at hy
    rw [List.set_eq_of_length_le (by omega)] at hy
    exact h y hy
theorem joinS_cnt (s : Nat) (f : List Bool) (x : List (List Bool) × Bool) (hs : s < x.1.length) : totF (joinS s f x).1 ≤ totF x.1 ∧ ((joinS s f x).2 = true → x.2 = true ∨ totF (joinS s f x).1 < totF x.1) := by
  have hg : x.1[s]? = some (x.1.getD s []) := by rw [List.getD_eq_getElem?_getD, List.getElem?_eq_getElem hs]; rfl
  have h1 := totF_set x.1 s _ (orL (x.1.getD s []) f) hg
  obtain ⟨h2, h3⟩ := orL_cnt (x.1.getD s []) f
  simp only [joinS]
  refine ⟨by omega, fun h => ?_⟩
  rcases Bool.or_eq_true_iff.1 h with h4 | h4
  · exact .inr (by have := h3 h4; omega)
  · exact .inl h4
theorem totF_zero (n k : Nat) : totF (zeroF n k) = n * (k + 1) := by
  induction n with
  | zero => simp [zeroF, totF]
  | succ n ih =>
    have : zeroF (n + 1) k = zeroB k :: zeroF n k := rfl
    rw [this]
    simp only [totF, List.map_cons, List.sum_cons] at ih ⊢
    rw [ih]
    simp only [zeroB, List.count_replicate_self]
    rw [Nat.add_mul]; omega
theorem acalls_mk0 {P : Program} {f : FuncId} {xs ys : List A} {V : List Ob} {k : Nat} {o : List Bool} {x : Nat → A} (hx : ∀ b, looseA (x b) = true) (hv : VwL V xs ys) (hc : ACalls P f ys [] (fun r M' => ∃ b, r = x b ∧ M' = ⟨some b, (k + 1) * 1, bools o⟩ :: [])) :
    ACalls P f xs V (fun r M' => ∃ b, r = x b ∧ M' = ⟨some b, (k + 1) * 1, bools o⟩ :: V) := by
  refine (acalls_part (W := []) hv hc ?_).mono ?_
  · rintro r M' ⟨b, rfl, rfl⟩
    refine ⟨hx b, fun o ho => ?_⟩
    simp at ho; subst ho; exact looseL_bools _
  · rintro r M' ⟨M1, ⟨b, rfl, rfl⟩, rfl⟩
    exact ⟨b, rfl, rfl⟩
theorem orT_same {o f : List Bool} {q : Nat} (h : q < o.length) (hc : f.getD q false = false ∨ o.getD q false = true) : orT o f (q + 1) = orT o f q := by
  rw [← orT_succ h]
  apply set_self
  rw [orT_get h, if_neg (by omega)]
  rcases hc with h1 | h1
  · rw [h1, Bool.or_false]
  · rw [h1, Bool.true_or]
theorem joinS_gw {n k : Nat} {s : Nat} (f : List Bool) (x : List (List Bool) × Bool) (hs : s < n) : Gw (FOk n k) totF x (joinS s f x) := fun h =>
  ⟨⟨by rw [joinS_len]; exact h.1, joinS_all _ _ _ h.2⟩, joinS_cnt s f x (by rw [h.1]; exact hs)⟩
end Go.Proofs.Ytbnhmioijeagiaa.Ab
/- Chapter 18's reference, NewChart: the walk. No condition. -/
set_option linter.unusedVariables false
set_option linter.unusedSimpArgs false
namespace Go.Proofs.Ytbnhmioijeagiaa.Ab
attribute [local irreducible] thenA inBlockA ACode AOps put IntKind.wrap

def fromT (n i : Nat) (to : List Bool) : List Bool := tab n fun j => decide (i ≤ j) && to.getD j false
def chS (ks : List Int) (n : Nat) (r : Ru) (x : List (List Bool) × Bool) (i : Nat) : List (List Bool) × Bool := joinS (r.left.toNat * (n + 1) + i) (fromT n i (rowF ks n x.1 r.right i)) x
def chR (ks : List Int) (n : Nat) (x : List (List Bool) × Bool) (r : Ru) : List (List Bool) × Bool := ((List.range (n + 1)).reverse).foldl (chS ks n r) x
def chI (g : Gr) (ks : List Int) (n : Nat) (F : List (List Bool)) : List (List Bool) × Bool := g.rules.foldl (chR ks n) (F, false)
def chF (g : Gr) (ks : List Int) (N n : Nat) : List (List Bool) := fixI (chI g ks n) (N * (n + 1) * (n + 1) + 1) (zeroF (N * (n + 1)) n)
theorem rev_drop {n m : Nat} (h : m ≤ n) : ((List.range (n + 1)).reverse).drop m = (n - m) :: ((List.range (n + 1)).reverse).drop (m + 1) := by
  rw [List.drop_eq_getElem_cons (by simp; omega), List.getElem_reverse]; simp
theorem orT_below {x f : List Bool} {i : Nat} (h : ∀ u, u < i → f.getD u false = false) (hi : i ≤ x.length) : orT x f i = x ∧ cameT x f i = false := by
  induction i with
  | zero => exact ⟨orT_zero x f, rfl⟩
  | succ i ih =>
    obtain ⟨h1, h2⟩ := ih (fun u hu => h u (by omega)) (by omega)
    have hf := h i (by omega)
    exact ⟨by rw [orT_same (by omega) (.inl hf), h1], by rw [cameT_succ, h2, hf]; rfl⟩
theorem chS_gw {ks : List Int} {N n : Nat} (r : Ru) (hr : r.left.toNat < N) (x : List (List Bool) × Bool) (i : Nat) (hi : i ≤ n) : Gw (FOk (N * (n + 1)) n) totF x (chS ks n r x i) :=
  joinS_gw _ _ (idx_lt hr hi)
theorem chR_gw {ks : List Int} {N n : Nat} (r : Ru) (hr : r.left.toNat < N) (x : List (List Bool) × Bool) : Gw (FOk (N * (n + 1)) n) totF x (chR ks n x r) :=
  gw_fold _ _ fun i hi x => chS_gw r hr x i (by have := List.mem_reverse.1 hi; have := List.mem_range.1 this; omega)
theorem chI_gw {g : Gr} {ks : List Int} {N n : Nat} (hw : ∀ r ∈ g.rules, r.left.toNat < N) (F : List (List Bool)) : Gw (FOk (N * (n + 1)) n) totF (F, false) (chI g ks n F) :=
  gw_fold g.rules _ fun r hr x => chR_gw r (hw r hr) x
theorem zeroF_ok (N n : Nat) : FOk N n (zeroF N n) := ⟨zeroF_len N n, zeroF_all⟩
theorem chF_ok {g : Gr} {ks : List Int} {N n : Nat} (hw : ∀ r ∈ g.rules, r.left.toNat < N) : FOk (N * (n + 1)) n (chF g ks N n) :=
  fixI_ok (p := FOk (N * (n + 1)) n) (fun x h => (chI_gw hw x h).1) _ _ (zeroF_ok _ _)
theorem rowsO_app {n a m : Nat} {bs cs : List Nat} (h : a * (n + 1) + m ≤ bs.length) : rowsO n (bs ++ cs) a m = rowsO n bs a m :=
  List.map_congr_left fun i hi => by
    have := List.mem_range.1 hi
    rw [List.getD_eq_getElem?_getD, List.getElem?_append_left (by omega), ← List.getD_eq_getElem?_getD]
theorem rowsO_snoc {n a m b : Nat} {bs : List Nat} (h : bs.length = a * (n + 1) + m) : rowsO n (bs ++ [b]) a (m + 1) = rowsO n bs a m ++ [A.own (some b) (n + 1) (n + 1)] := by
  have h1 : rowsO n (bs ++ [b]) a (m + 1) = rowsO n (bs ++ [b]) a m ++ [A.own (some ((bs ++ [b]).getD (a * (n + 1) + m) 0)) (n + 1) (n + 1)] := by unfold rowsO; rw [List.range_succ, List.map_append]; rfl
  rw [h1, rowsO_app (by omega), ← h, List.getD_eq_getElem?_getD, List.getElem?_append_right (Nat.le_refl _), Nat.sub_self]; rfl
theorem endsO_app {N n : Nat} {bs cs : List Nat} (h : N * (n + 1) ≤ bs.length) : endsO N n (bs ++ cs) = endsO N n bs :=
  List.map_congr_left fun a ha => by
    have := List.mem_range.1 ha
    have h2 := idx_lt (n := n) (i := n) this (Nat.le_refl _)
    rw [rowsO_app (by omega)]
theorem endsO_snoc (N n : Nat) (bs : List Nat) : endsO (N + 1) n bs = endsO N n bs ++ [A.psl (n + 1) (rowsO n bs N (n + 1))] := by
  unfold endsO; rw [List.range_succ, List.map_append]; rfl
theorem rowsO_len (n : Nat) (bs : List Nat) (a m : Nat) : (rowsO n bs a m).length = m := by simp [rowsO]
theorem endsO_len (N n : Nat) (bs : List Nat) : (endsO N n bs).length = N := by simp [endsO]
theorem endsO_at {N n : Nat} {bs : List Nat} {a : Int} (h0 : 0 ≤ a) (h : a.toNat < N) : [A.psl (n + 1) (rowsO n bs a.toNat (n + 1))] <+: (endsO N n bs).drop (a.toNat * 1) := range_at (f := fun a => A.psl (n + 1) (rowsO n bs a (n + 1))) h
theorem rowsO_at {n m : Nat} {bs : List Nat} {a i : Nat} (h : i < m) : [A.own (some (bs.getD (a * (n + 1) + i) 0)) (n + 1) (n + 1)] <+: (rowsO n bs a m).drop (i * 1) := range_at (f := fun i => A.own (some (bs.getD (a * (n + 1) + i) 0)) (n + 1) (n + 1)) h
theorem zeroF_snoc (m n : Nat) : zeroF (m + 1) n = zeroF m n ++ [zeroB n] := List.replicate_succ'
theorem obsZ_snoc {n b m : Nat} {bs : List Nat} (h : bs.length = m) : obsZ n (bs ++ [b]) (zeroF (m + 1) n) = obsZ n bs (zeroF m n) ++ [⟨some b, (n + 1) * 1, bools (zeroB n)⟩] := by
  rw [zeroF_snoc, obsZ_app (by rw [h, zeroF_len])]; rfl
theorem vw_chart {V : List Ob} {g : Gr} {ks : List Int} {N n : Nat} {bs : List Nat} {F : List (List Bool)} (hb : bs.length = N * (n + 1)) (hF : FOk (N * (n + 1)) n F) (hV : ∀ o ∈ obsZ n bs F, o ∈ V) : VwL V (chL g ks (.psl N (endsO N n bs))) (chC g ks N n F) :=
  .cons (.refl _) (.cons (.refl _) (.cons (.refl _) (.cons (.refl _) (.cons (.refl _) (.cons (.refl _) (.cons (.refl _) (.cons (.refl _) (.cons (.psl (vw_ends hb hF hV)) .nil))))))))

set_option maxHeartbeats 16000000 in
theorem newChart_calls {g : Gr} {ks : List Int} {N n : Nat} (hg : GrOk g) (h : chkF g = 0) (hN : g.names = N) (hks : ks.length = n) (hn : n ≤ 2000) (M : List Ob) :
    ACalls Try.prog 33 [grA g, .psl ks.length (ints ks)] M (fun r M' => r = .tup [.pp (chC g ks N n (chF g ks N n)), .int .i64 0] ∧ M' = M) := by
  have hform : (formF g).2 = 0 := by
    unfold chkF at h
    split at h
    · rename_i h1; exact absurd h h1
    · rename_i h1; exact Classical.not_not.1 h1
  obtain ⟨fo, hN'⟩ := form_ok hform
  have hNN : g.names.toNat = N := by omega
  rw [hNN] at fo
  clear hN' hNN
  have hN0 := fo.n0
  have hN1 := fo.n1
  have hlt : ∀ r ∈ g.rules, r.left.toNat < N := fun r hr => by have := fo.left r hr; unfold isName at this; omega
  have hrl := fo.rl
  have hbd : ∀ a, a ≤ N → a * (n + 1) ≤ N * (n + 1) := fun a ha => Nat.mul_le_mul_right _ ha
  refine acalls_of_code 122 Try.func33 rfl rfl rfl ?_
  repeat (first | refine acode_seq ?_ | refine acode_region ?_)
  refine aops_boxf rfl rfl rfl rfl rfl rfl rfl ?_
  repeat (first | refine aops_end ?_ | refine aops_p tok rfl rfl rfl rfl ?_ | refine acode_seq ?_ | refine acode_region ?_)
  refine aops_call Try.func10 rfl rfl rfl rfl (check_calls hg _) rfl rfl ?_
  rintro y M1 ⟨⟨a0, rfl⟩, hM1⟩
  rw [h, hM1]
  repeat' (first | refine aops_put rfl ?_ | refine aops_end ?_ | (refine aops_pd tok rfl rfl rfl rfl ?_ ?_ <;> intro e_) | (refine aops_pn tok rfl rfl rfl rfl ?_ ?_ <;> intro e_) | refine aops_p tok rfl rfl rfl rfl ?_ | refine acode_it rfl ?_ | refine acode_if rfl ?_ | refine acode_seq ?_ | refine acode_region ?_ | refine acode_skip ?_ | refine then_n ?_)
  any_goals (exfalso; omega)
  refine acode_drawP [] 5 [0, 1, 2, 3, 4] [4] mixed (by kernel_rfl) (by kernel_rfl) rfl ?_
  repeat (refine seqO_p tok rfl rfl rfl rfl rfl ?_)
  refine seqO_y rfl (fun M' => yields_appf tok rfl rfl rfl rfl (by rw [ints_len1]) (ints_cell _) rfl (by show _ * 8 ≤ _; omega) (by omega) rfl rfl rfl) rfl ?_
  repeat (refine seqO_p tok rfl rfl rfl rfl rfl ?_)
  refine seqO_boxo rfl rfl rfl rfl (by simp) rfl rfl rfl rfl fun cb => ?_
  refine seqO_T rfl ?_
  refine SeqT.done ?_
  refine aops_adoptF 8 rfl rfl ?_
  repeat (first | refine aops_end ?_ | refine aops_p tok rfl rfl rfl rfl ?_ | refine acode_seq ?_ | refine acode_region ?_ | refine acode_block ?_)
  refine acode_loopS (ι := Nat × List Nat × Option Nat × Nat) (fun p => [(2, .pp (grC g)), (8, .int .i64 n), (9, .ref cb 0), (10, .int .i64 p.1)]) (fun p => ⟨some cb, 9, chL g ks (.own p.2.2.1 p.1 p.2.2.2)⟩ :: ⟨p.2.2.1, p.2.2.2 * 1, endsO p.1 n p.2.1⟩ :: (obsZ n p.2.1 (zeroF (p.1 * (n + 1)) n) ++ M)) (fun p => N - p.1) (fun p => p.1 ≤ N ∧ p.2.1.length = p.1 * (n + 1)) (0, [], none, 0) ⟨Nat.zero_le _, by simp⟩ ⟨rfl, by rw [← hks]; rfl, rfl, rfl, trivial⟩ rfl ?_
  rintro ⟨a, bs, eo, ecap⟩ ⟨ha, hbs⟩
  simp only at ha hbs ⊢
  repeat (first | refine aops_end ?_ | refine aops_p tok rfl rfl rfl rfl ?_ | refine acode_seq ?_ | refine acode_region ?_)
  refine acode_id rfl (fun e => ?_) (fun e => ?_)
  · have haN : a < N := by omega
    repeat (first | refine aops_end ?_ | refine aops_p tok rfl rfl rfl rfl ?_ | refine acode_seq ?_ | refine acode_region ?_ | refine acode_block ?_ | refine acode_skip ?_ | refine then_n ?_)
    refine acode_adopt 11 1 rfl ?_
    refine acode_loopS (ι := Nat × List Nat × Option Nat × Nat) (fun p => [(2, .pp (grC g)), (8, .int .i64 n), (9, .ref cb 0), (10, .int .i64 a), (11, .own p.2.2.1 p.1 p.2.2.2), (12, .int .i64 p.1)]) (fun p => ⟨p.2.2.1, p.2.2.2 * 1, rowsO n p.2.1 a p.1⟩ :: ⟨some cb, 9, chL g ks (.own eo a ecap)⟩ :: ⟨eo, ecap * 1, endsO a n p.2.1⟩ :: (obsZ n p.2.1 (zeroF (a * (n + 1) + p.1) n) ++ M)) (fun p => n + 1 - p.1) (fun p => p.1 ≤ n + 1 ∧ p.2.1.length = a * (n + 1) + p.1) (0, bs, none, 0) ⟨Nat.zero_le _, hbs⟩ ⟨rfl, rfl, rfl, rfl, rfl, rfl, trivial⟩ rfl ?_
    clear hbs
    rintro ⟨i, bs, ro, cap⟩ ⟨hi, hbs⟩
    simp only at hi hbs ⊢
    repeat (first | refine aops_end ?_ | refine aops_p tok rfl rfl rfl rfl ?_ | refine acode_seq ?_ | refine acode_region ?_)
    refine acode_id rfl (fun e2 => ?_) (fun e2 => ?_)
    · have hin : i ≤ n := by omega
      repeat (first | refine aops_a tok rfl (by omega) (by omega) rfl rfl rfl ?_ | refine aops_p tok rfl rfl rfl rfl ?_ | refine acode_seq ?_ | refine acode_region ?_ | refine acode_block ?_ | refine acode_skip ?_ | refine then_n ?_)
      refine aops_mk tok (n + 1) rfl rfl rfl rfl (by omega) rfl (by show _ * 1 ≤ _; omega) (by omega) rfl rfl rfl fun b2 => ?_
      skip
      refine aops_litn tok rfl rfl rfl rfl rfl rfl rfl ?_
      refine aops_append tok 1 (m := 1) rfl rfl rfl (.inl rfl) rfl rfl (by rw [rowsO_len, Nat.mul_one]) rfl rfl rfl (by show _ * 24 ≤ _; omega) (by omega) rfl rfl fun ob' cap' => ?_
      refine aops_perm (⟨ob', cap' * 1, rowsO n (bs ++ [b2]) a (i + 1)⟩ :: ⟨some cb, 9, chL g ks (.own eo a ecap)⟩ :: ⟨eo, ecap * 1, endsO a n (bs ++ [b2])⟩ :: (obsZ n (bs ++ [b2]) (zeroF (a * (n + 1) + i + 1) n) ++ M)) ?_ ?_
      · rw [obsZ_snoc hbs, rowsO_snoc hbs, endsO_app (by omega), List.append_assoc, show bools (zeroB n) = zerosA [A.bool false] (n + 1) from (bools_zeros _).symm]
        exact (List.perm_middle (l₁ := _ :: _ :: _ :: obsZ n bs (zeroF (a * (n + 1) + i) n))).symm
      repeat (first | refine aops_put rfl ?_ | refine aops_end ?_ | refine aops_endb ?_ | refine aops_a tok rfl (by omega) (by omega) rfl rfl rfl ?_ | refine aops_p tok rfl rfl rfl rfl ?_ | refine acode_region ?_ | refine then_n ?_)
      exact ⟨(i + 1, bs ++ [b2], ob', cap'), ⟨by simp; omega, by simp [hbs]; omega⟩, by simp; omega, ⟨rfl, rfl, rfl, rfl, rfl, rfl, trivial⟩, rfl⟩
    · obtain rfl : i = n + 1 := by omega
      refine acode_exit ?_
      repeat (first | refine exit_then ?_ | refine exit_here ?_ | refine then_n ?_)
      refine acode_pub0 11 1 rfl rfl (by rw [rowsO_len, Nat.mul_one]) rfl ?_
      repeat (first | refine aops_p tok rfl rfl rfl rfl ?_ | refine aops_ld tok 0 rfl rfl rfl rfl rfl rfl rfl rfl ?_ | refine acode_region ?_)
      refine aops_litn tok rfl rfl rfl rfl rfl rfl rfl ?_
      refine aops_append tok 1 (m := 1) rfl rfl rfl (.inl rfl) rfl rfl (by rw [endsO_len, Nat.mul_one]) rfl rfl rfl (by show _ * 24 ≤ _; omega) (by omega) rfl rfl fun ob' cap' => ?_
      repeat (first | refine aops_put rfl ?_ | refine aops_end ?_ | refine aops_endb ?_ | refine aops_a tok rfl (by omega) (by omega) rfl rfl rfl ?_ | refine aops_p tok rfl rfl rfl rfl ?_ | refine aops_stn tok rfl rfl rfl rfl rfl rfl rfl rfl rfl ?_ | refine acode_region ?_ | refine then_n ?_)
      have hes := endsO_snoc a n bs
      have hsm : (a + 1) * (n + 1) = a * (n + 1) + (n + 1) := Nat.succ_mul _ _
      exact ⟨(a + 1, bs, ob', cap'), ⟨by simp; omega, by simp [hbs, hsm]⟩, by simp; omega, ⟨rfl, rfl, rfl, rfl, trivial⟩, by simp only [hes, hsm]; rfl⟩
  obtain rfl : N = a := by omega
  clear e ha
  refine acode_exit ?_
  repeat (first | refine exit_then ?_ | refine exit_here ?_ | refine then_n ?_)
  refine acode_pubFld 8 (sz := 1) rfl rfl (by rw [endsO_len, Nat.mul_one]) (by decide) rfl ?_
  have hR0 : fixI (chI g ks n) (N * (n + 1) * (n + 1) + 1) (zeroF (N * (n + 1)) n) = chF g ks N n := rfl
  have h0c : totF (zeroF (N * (n + 1)) n) < N * (n + 1) * (n + 1) + 1 := by rw [totF_zero]; omega
  have h0l : FOk (N * (n + 1)) n (zeroF (N * (n + 1)) n) := zeroF_ok _ _
  generalize N * (n + 1) * (n + 1) + 1 = K at *
  generalize chF g ks N n = fin at *
  generalize zeroF (N * (n + 1)) n = F0 at *
  have hbox : (chL g ks (A.own eo N ecap)).set 8 (A.psl N (endsO N n bs)) = chL g ks (A.psl N (endsO N n bs)) := rfl
  rw [hbox]
  repeat (first | refine aops_end ?_ | refine aops_p tok rfl rfl rfl rfl ?_ | refine acode_seq ?_ | refine acode_region ?_ | refine acode_block ?_)
  refine acode_loopS (ι := Nat × List (List Bool) × Bool) (fun p => [(2, .pp (grC g)), (8, .int .i64 n), (9, .ref cb 0), (13, .bool p.2.2)]) (fun p => ⟨some cb, 9, chL g ks (.psl N (endsO N n bs))⟩ :: (obsZ n bs p.2.1 ++ M)) (fun p => if p.2.2 then p.1 + 1 else 0) (fun p => FOk (N * (n + 1)) n p.2.1 ∧ (p.2.2 = true → fixI (chI g ks n) p.1 p.2.1 = fin ∧ totF p.2.1 < p.1) ∧ (p.2.2 = false → p.2.1 = fin)) (K, F0, true) ⟨h0l, fun _ => ⟨hR0, h0c⟩, fun h => by cases h⟩ ⟨rfl, rfl, rfl, rfl, trivial⟩ rfl ?_
  clear hR0 h0c h0l
  rintro ⟨q, F, more⟩ ⟨hF, hm, hd⟩
  simp only at hF hm hd ⊢
  cases more with
  | false =>
    obtain rfl := hd rfl
    repeat' (first | refine aops_end ?_ | refine aops_p tok rfl rfl rfl rfl ?_ | refine acode_if rfl ?_ | refine acode_seq ?_ | refine acode_region ?_)
    refine acode_exit ?_
    repeat (first | refine exit_then ?_ | refine exit_here ?_ | refine then_n ?_)
    repeat (first | refine aops_end ?_ | refine aops_p tok rfl rfl rfl rfl ?_ | refine acode_seq ?_ | refine acode_region ?_)
    refine acode_freezeV (V := ⟨some cb, 9, chL g ks (.psl N (endsO N n bs))⟩ :: obsZ n bs F) [(4, .pp (chC g ks N n F)), (5, .int .i64 0)] ⟨.ref (.head _) (vw_chart hbs hF (fun o ho => .tail _ ho)), .refl _, trivial⟩ ?_
    refine acode_ret ?_
    skip
    exact ⟨_, ⟨rfl, rfl⟩, _, _, rfl, resOf_tmp rfl, resOf_tmp rfl⟩
  | true =>
    obtain ⟨hI, hcnt⟩ := hm rfl
    clear hm hd
    obtain ⟨q', rfl⟩ : ∃ q', q = q' + 1 := ⟨q - 1, by omega⟩
    obtain ⟨hRl, hR1, hR2⟩ := chI_gw (ks := ks) hlt F hF
    simp only [fixI] at hI
    simp only at hR1 hR2 hRl
    generalize hres : chI g ks n F = RES at hI hR1 hR2 hRl
    unfold chI at hres
    repeat' (first | refine aops_end ?_ | refine aops_p tok rfl rfl rfl rfl ?_ | refine acode_it rfl ?_ | refine acode_seq ?_ | refine acode_region ?_ | refine acode_block ?_ | refine acode_skip ?_ | refine then_n ?_)
    refine acode_loopS (ι := Nat × List (List Bool) × Bool) (fun p => [(2, .pp (grC g)), (8, .int .i64 n), (9, .ref cb 0), (13, .bool p.2.2), (14, .int .i64 p.1)]) (fun p => ⟨some cb, 9, chL g ks (.psl N (endsO N n bs))⟩ :: (obsZ n bs p.2.1 ++ M)) (fun p => g.rules.length - p.1) (fun p => p.1 ≤ g.rules.length ∧ FOk (N * (n + 1)) n p.2.1 ∧ (g.rules.drop p.1).foldl (chR ks n) (p.2.1, p.2.2) = RES) (0, F, false) ⟨Nat.zero_le _, hF, hres⟩ ⟨rfl, rfl, rfl, rfl, rfl, trivial⟩ rfl ?_
    clear hres
    rintro ⟨j, F1, m1⟩ ⟨hj, hF1, hfold⟩
    simp only at hj hF1 hfold ⊢
    repeat (first | refine aops_end ?_ | refine aops_p tok rfl rfl rfl rfl ?_ | refine acode_seq ?_ | refine acode_region ?_)
    refine acode_id rfl (fun e => ?_) (fun e => ?_)
    · have hjl : j < g.rules.length := by omega
      obtain ⟨r, hr⟩ : ∃ r, g.rules[j]? = some r := ⟨g.rules[j], List.getElem?_eq_getElem hjl⟩
      have hrm := List.mem_of_getElem? hr
      have hdr : g.rules.drop j = r :: g.rules.drop (j + 1) := by
        rw [List.drop_eq_getElem_cons hjl]
        rw [List.getElem?_eq_getElem hjl] at hr
        rw [Option.some.inj hr]
      rw [hdr, List.foldl_cons] at hfold
      obtain ⟨hr0, hr1⟩ := fo.left r hrm
      have hl1 := hlt r hrm
      have hrr := (hg.rr r hrm).1
      have hsy := fo.sym r hrm
      generalize hres : chR ks n (F1, m1) r = RES1 at hfold
      unfold chR at hres
      repeat (first | refine aops_end ?_ | refine aops_p tok rfl rfl rfl rfl ?_ | refine acode_seq ?_ | refine acode_region ?_ | refine acode_block ?_ | refine acode_skip ?_ | refine then_n ?_)
      refine acode_loopS (ι := Nat × List (List Bool) × Bool) (fun p => [(2, .pp (grC g)), (8, .int .i64 n), (9, .ref cb 0), (13, .bool p.2.2), (14, .int .i64 j), (15, .int .i64 ((n : Int) - p.1))]) (fun p => ⟨some cb, 9, chL g ks (.psl N (endsO N n bs))⟩ :: (obsZ n bs p.2.1 ++ M)) (fun p => n + 1 - p.1) (fun p => p.1 ≤ n + 1 ∧ FOk (N * (n + 1)) n p.2.1 ∧ (((List.range (n + 1)).reverse).drop p.1).foldl (chS ks n r) (p.2.1, p.2.2) = RES1) (0, F1, m1) ⟨Nat.zero_le _, hF1, hres⟩ ⟨rfl, rfl, rfl, rfl, rfl, by simp; rfl, trivial⟩ rfl ?_
      clear hres hF1
      rintro ⟨m, F1, m1⟩ ⟨hm, hF1, hres⟩
      simp only at hm hF1 hres ⊢
      repeat (first | refine aops_end ?_ | refine aops_p tok rfl rfl rfl rfl ?_ | refine acode_seq ?_ | refine acode_region ?_)
      refine acode_id rfl (fun e2 => ?_) (fun e2 => ?_)
      · have hmn : m ≤ n := by omega
        rw [rev_drop hmn, List.foldl_cons] at hres
        obtain ⟨i, hie⟩ : ∃ i, n - m = i := ⟨_, rfl⟩
        have hcast : (n : Int) - m = i := by omega
        have hin : i ≤ n := by omega
        rw [hie] at hres
        rw [hcast]
        have hlq := idx_lt (n := n) hl1 hin
        obtain ⟨x, hx, hxl⟩ := fok_at hF1 hlq
        have hxd : F1.getD (r.left.toNat * (n + 1) + i) [] = x := by rw [List.getD_eq_getElem?_getD, hx]; rfl
        have hbq : bs[r.left.toNat * (n + 1) + i]? = some (bs.getD (r.left.toNat * (n + 1) + i) 0) := by rw [List.getD_eq_getElem?_getD, List.getElem?_eq_getElem (by omega)]; rfl
        have hrow := row_calls (g := g) (ks := ks) (l := r.right) (N := N) (n := n) (fr := i) (F := F1) hN hks hn (by have := fo.k1; omega) hF1 hrr hsy hin []
        have hrowl : (rowF ks n F1 r.right i).length = n + 1 := rowF_len ks n F1 i r.right _ (tab_len _ _)
        have hok2 := (chS_gw (ks := ks) r hl1 (F1, m1) i hin hF1).1
        have hst : chS ks n r (F1, m1) i = (F1.set (r.left.toNat * (n + 1) + i) (orL x (fromT n i (rowF ks n F1 r.right i))), cameL x (fromT n i (rowF ks n F1 r.right i)) || m1) := by unfold chS joinS; simp only [hxd]
        rw [hst] at hres hok2
        have hrat := rowsO_at (n := n) (m := n + 1) (bs := bs) (a := r.left.toNat) (i := i) (by omega)
        generalize hbqe : bs.getD (r.left.toNat * (n + 1) + i) 0 = bq at *
        generalize hqd : r.left.toNat * (n + 1) + i = qd at *
        generalize rowF ks n F1 r.right i = to at *
        have hfl : (fromT n i to).length = n + 1 := tab_len _ _
        have hfat : ∀ j, j ≤ n → (fromT n i to).getD j false = (decide (i ≤ j) && to.getD j false) := fun j hj => tab_getD hj
        generalize fromT n i to = f at *
        obtain ⟨hb1, hb2⟩ := orT_below (x := x) (f := f) (i := i) (fun u hu => by rw [hfat u (by omega), decide_eq_false (by omega)]; rfl) (by omega)
        repeat (first | refine aops_p tok rfl rfl rfl rfl ?_ | refine acode_seq ?_ | refine acode_region ?_ | refine acode_block ?_ | refine acode_skip ?_ | refine then_n ?_)
        refine aops_ix tok (ruC r) rfl rfl rfl rfl (by omega) (by omega) (by simp [ruC]) (encs_at (e := ruC) (s := 3) (fun _ => rfl) (i := (j : Int).toNat) (by simpa using hr)) rfl rfl rfl ?_
        repeat (refine aops_p tok rfl rfl rfl rfl ?_)
        refine aops_call Try.func71 rfl rfl rfl rfl (acalls_mk0 (x := fun b => .own (some b) (n + 1) (n + 1)) (fun _ => rfl) (.cons (.ref (.head _) (vw_chart hbs hF1 (fun o ho => .tail _ (List.mem_append_left _ ho)))) (.cons (.refl _) (.cons (.refl _) .nil))) hrow) rfl rfl ?_
        rintro y M2 ⟨b3, rfl, hM2⟩
        rw [hM2]
        repeat (first | refine aops_put rfl ?_ | refine aops_p tok rfl rfl rfl rfl ?_)
        refine aops_end ?_
        refine acode_pub0 16 1 rfl rfl (by rw [bools_len, hrowl, Nat.mul_one]) rfl ?_
        repeat (refine acode_seq ?_)
        refine acode_drawT 15 mixed (by kernel_rfl) (by kernel_rfl) ?_
        repeat (first | refine seqT_p tok rfl rfl rfl rfl ?_ | refine seqT_ld tok 0 rfl rfl rfl rfl rfl rfl rfl rfl ?_)
        refine seqT_ix tok (ruC r) rfl rfl rfl rfl (by omega) (by omega) (by simp [ruC]) (encs_at (e := ruC) (s := 3) (fun _ => rfl) (i := (j : Int).toNat) (by simpa using hr)) rfl rfl rfl ?_
        repeat (refine seqT_p tok rfl rfl rfl rfl ?_)
        refine seqT_ix tok [A.psl (n + 1) (rowsO n bs r.left.toNat (n + 1))] rfl rfl rfl rfl hr0 (by omega) (by simp) (endsO_at hr0 hl1) rfl rfl rfl ?_
        repeat (refine seqT_p tok rfl rfl rfl rfl ?_)
        refine seqT_ix tok [A.own (some bq) (n + 1) (n + 1)] rfl rfl rfl rfl (by omega) (by omega) (by simp) hrat rfl rfl rfl ?_
        repeat (refine seqT_p tok rfl rfl rfl rfl ?_)
        refine SeqT.done ?_
        repeat (first | refine aops_end ?_ | refine aops_p tok rfl rfl rfl rfl ?_ | refine acode_seq ?_ | refine acode_region ?_ | refine acode_block ?_)
        refine acode_loopS (ι := Nat) (fun u => [(2, .pp (grC g)), (8, .int .i64 n), (9, .ref cb 0), (13, .bool (cameT x f u || m1)), (14, .int .i64 j), (15, .int .i64 i), (16, .psl (n + 1) (bools to)), (17, .own (some bq) (n + 1) (n + 1)), (18, .int .i64 u)]) (fun u => ⟨some cb, 9, chL g ks (.psl N (endsO N n bs))⟩ :: (obsZ n bs (F1.set qd (orT x f u)) ++ M)) (fun u => n + 1 - u) (fun u => i ≤ u ∧ u ≤ n + 1) i ⟨Nat.le_refl _, by omega⟩ ⟨rfl, rfl, rfl, by rw [hb2]; rfl, rfl, rfl, rfl, rfl, rfl, trivial⟩ (by rw [hb1, set_at hx]) ?_
        rintro u ⟨hu0, hu1⟩
        repeat (first | refine aops_end ?_ | refine aops_p tok rfl rfl rfl rfl ?_ | refine acode_seq ?_ | refine acode_region ?_)
        refine acode_id rfl (fun e3 => ?_) (fun e3 => ?_)
        · have hun : u ≤ n := by omega
          have htu := getD_at (l := to) (i := u) (by omega)
          have hfu := hfat u hun
          rw [decide_eq_true hu0, Bool.true_and] at hfu
          have hoq : (orT x f u)[u]? = some (x.getD u false) := by rw [orT_get (by omega), if_neg (by omega)]
          have hsc := orT_succ (o := x) (f := f) (q := u) (by omega)
          have hcs := cameT_succ x f u
          have hsm := orT_same (o := x) (f := f) (q := u) (by omega)
          have hol := orT_len x f u
          have hset : (F1.set qd (orT x f u))[qd]? = some (orT x f u) := by rw [List.getElem?_set_self]; rw [hF1.1]; exact hlq
          rw [hfu] at hsc hcs hsm
          generalize to.getD u false = fq at *
          generalize x.getD u false = xq at *
          generalize cameT x f u = c1 at *
          repeat (first | refine aops_p tok rfl rfl rfl rfl ?_ | refine acode_seq ?_ | refine acode_region ?_ | refine acode_block ?_ | refine acode_skip ?_ | refine then_n ?_)
          refine aops_ix tok [A.bool fq] rfl rfl rfl rfl (by omega) (by omega) (by simp) (bools_at (j := u) (by simpa using htu)) rfl rfl rfl ?_
          cases fq with
          | false =>
            rw [← hsm (.inl rfl)]
            repeat' (first | refine aops_end ?_ | refine aops_o rfl rfl rfl ?_ | refine aops_a tok rfl (by omega) (by omega) rfl rfl rfl ?_ | refine aops_p tok rfl rfl rfl rfl ?_ | refine acode_if rfl ?_ | refine acode_region ?_ | refine acode_skip ?_ | refine then_n ?_ | refine block_n ?_)
            exact ⟨u + 1, ⟨by omega, by omega⟩, by omega, ⟨rfl, rfl, rfl, by rw [hcs]; simp; rfl, rfl, rfl, rfl, rfl, rfl, trivial⟩, rfl⟩
          | true =>
            repeat (refine aops_p tok rfl rfl rfl rfl ?_)
            refine aops_ixo tok rfl rfl rfl rfl (by omega) (by omega) rfl rfl rfl ?_
            refine aops_ld tok (qd + 1) (y := .bool xq) rfl rfl rfl (obs_at hbq hset) (by rw [headed_eq]; exact bools_get hoq) rfl rfl rfl ?_
            cases xq with
            | true =>
              rw [← hsm (.inr rfl)]
              repeat' (first | refine aops_end ?_ | refine aops_a tok rfl (by omega) (by omega) rfl rfl rfl ?_ | refine aops_p tok rfl rfl rfl rfl ?_ | refine acode_if rfl ?_ | refine acode_region ?_ | refine acode_skip ?_ | refine then_n ?_ | refine block_n ?_)
              exact ⟨u + 1, ⟨by omega, by omega⟩, by omega, ⟨rfl, rfl, rfl, by rw [hcs]; simp; rfl, rfl, rfl, rfl, rfl, rfl, trivial⟩, rfl⟩
            | false =>
              repeat' (first | refine aops_end ?_ | refine aops_p tok rfl rfl rfl rfl ?_ | refine acode_it rfl ?_ | refine acode_seq ?_ | refine acode_region ?_)
              refine aops_ixo tok rfl rfl rfl rfl (by omega) (by omega) rfl rfl rfl ?_
              refine aops_stk tok (qd + 1) (bools (orT x f (u + 1))) (⟨some cb, 9, chL g ks (.psl N (endsO N n bs))⟩ :: (obsZ n bs (F1.set qd (orT x f (u + 1))) ++ M)) rfl rfl rfl rfl (obs_at hbq hset) rfl (by rw [bools_len, hol, hxl]; show u * 1 + 1 ≤ _; omega) (by rw [← hsc]; exact bools_set (by rw [hol]; omega) _) (by rw [obs_set hbq hset, List.set_set]) rfl rfl ?_
              repeat (first | refine aops_end ?_ | refine aops_endb ?_ | refine aops_a tok rfl (by omega) (by omega) rfl rfl rfl ?_ | refine aops_p tok rfl rfl rfl rfl ?_ | refine acode_region ?_ | refine then_n ?_)
              exact ⟨u + 1, ⟨by omega, by omega⟩, by omega, ⟨rfl, rfl, rfl, by rw [hcs]; simp; rfl, rfl, rfl, rfl, rfl, rfl, trivial⟩, rfl⟩
        · have hue : u = n + 1 := by omega
          have hall := orT_all x f
          rw [hxl, ← hue] at hall
          have hcl : cameT x f u = cameL x f := by unfold cameT cameL; rw [hxl, hue]
          rw [hall, hcl]
          refine acode_exit ?_
          repeat (first | refine exit_then ?_ | refine exit_here ?_ | refine then_n ?_ | refine block_n ?_)
          repeat (first | refine aops_end ?_ | refine aops_a tok rfl (by omega) (by omega) rfl rfl rfl ?_ | refine aops_p tok rfl rfl rfl rfl ?_ | refine acode_region ?_)
          exact ⟨(m + 1, F1.set qd (orL x f), cameL x f || m1), ⟨by simp; omega, hok2, hres⟩, by simp; omega, ⟨rfl, rfl, rfl, rfl, rfl, by show A.int .i64 _ = A.int .i64 _; congr 1; simp; omega, trivial⟩, rfl⟩
      · obtain rfl : m = n + 1 := by omega
        rw [List.drop_of_length_le (by simp), List.foldl_nil] at hres
        subst hres
        refine acode_exit ?_
        repeat (first | refine exit_then ?_ | refine exit_here ?_ | refine then_n ?_ | refine block_n ?_)
        repeat (first | refine aops_end ?_ | refine aops_a tok rfl (by omega) (by omega) rfl rfl rfl ?_ | refine aops_p tok rfl rfl rfl rfl ?_ | refine acode_region ?_)
        exact ⟨(j + 1, F1, m1), ⟨by simp; omega, hF1, hfold⟩, by simp; omega, ⟨rfl, rfl, rfl, rfl, rfl, trivial⟩, rfl⟩
    · have hge : j = g.rules.length := by omega
      subst hge
      rw [List.drop_length] at hfold
      simp only [List.foldl_nil] at hfold
      refine acode_exit ?_
      repeat (first | refine exit_then ?_ | refine exit_here ?_ | refine then_n ?_ | refine block_n ?_)
      skip
      rw [← hfold] at hI hR2
      simp only at hI hR2
      refine ⟨(q', F1, m1), ⟨hF1, fun h => ?_, fun h => ?_⟩, ?_, ⟨rfl, rfl, rfl, rfl, trivial⟩, rfl⟩
      · simp only at h
        rw [if_pos h] at hI
        refine ⟨hI, ?_⟩
        rcases hR2 h with h3 | h3
        · cases h3
        · simp only; omega
      · simp only at h
        rw [h, if_neg (by simp)] at hI
        exact hI
      · simp only
        cases m1 <;> simp
end Go.Proofs.Ytbnhmioijeagiaa.Ab
/- Chapter 18's reference, Has, find and ahead: the walk. No condition. -/
set_option linter.unusedVariables false
set_option linter.unusedSimpArgs false
namespace Go.Proofs.Ytbnhmioijeagiaa.Ab
section
variable {P : Program} {T : List TI} {N : Nat} {ops : Array Oper} {o : Oper} {F : Env} {M : List Ob}
theorem yields_eqst (hT : TOk P T) {t t' d e : Nat} {x y : Operand} (l m : List Int) (ho : o.op = .binOp .eql t x y t') (ht : kindOf T t = some (.struct ((List.range' 0 l.length).map fun i => (i, e)))) (he : kindOf T e = some (.int .i64)) (hB : eqstB P t = true) (hx : opA F x = .agg (ints l)) (hy : opA F y = .agg (ints m)) (hlm : l.length = m.length) (hg : guardOn ops o F = some true) (hd : o.dst = some d) (hN : Nat.blt d N = true) : Yields P N ops o (.bool (l == m)) F M := by
  intro E hE rest Q next
  rw [hd] at next
  exact aops_eqst hT l m ho ht he hB ((agree_op hE (by rw [ho]; simp [Op.operands])).trans hx) ((agree_op hE (by rw [ho]; simp [Op.operands])).trans hy) hlm ((agree_guard hE).trans hg) hd hN next
end

attribute [local irreducible] thenA inBlockA ACode AOps put IntKind.wrap
abbrev Ky := Int × Int × Int
def kyL (k : Ky) : List Int := [k.1, k.2.1, k.2.2]
theorem kyL_eq (a b : Ky) : (kyL a == kyL b) = decide (a = b) := by
  obtain ⟨a1, a2, a3⟩ := a
  obtain ⟨b1, b2, b3⟩ := b
  rw [Bool.eq_iff_iff]
  simp [kyL]
def hasF (N n : Nat) (F : List (List Bool)) (a i j : Int) : Bool := decide (0 ≤ a ∧ a < N ∧ 0 ≤ i ∧ i ≤ j ∧ j ≤ n) && chAt n F a.toNat i.toNat j.toNat
set_option maxHeartbeats 4000000 in
theorem has_calls {g : Gr} {ks : List Int} {N n : Nat} {F : List (List Bool)} {a i j : Int} (hN : g.names = N) (hks : ks.length = n) (hn : n ≤ 2000) (hF : FOk (N * (n + 1)) n F) (M : List Ob) :
    ACalls Try.prog 34 [.pp (chC g ks N n F), .int .i64 a, .int .i64 i, .int .i64 j] M (fun r M' => r = .bool (hasF N n F a i j) ∧ M' = M) := by
  refine acalls_of_code 55 Try.func34 rfl rfl rfl ?_
  repeat' (first | refine aops_end ?_ | refine aops_o rfl rfl rfl ?_ | (refine aops_pd tok rfl rfl rfl rfl ?_ ?_ <;> intro e_) | refine aops_p tok rfl rfl rfl rfl ?_ | refine acode_seq ?_ | refine acode_region ?_)
  all_goals try
    (refine acode_ret ?_
     skip
     exact ⟨.bool (hasF N n F a i j), ⟨rfl, rfl⟩, resOf_tmp (by unfold hasF; rw [decide_eq_false (by omega)]; rfl)⟩)
  have h0 : 0 ≤ a := by omega
  have h1 : a.toNat < N := by omega
  have h2 : i.toNat ≤ n := by omega
  obtain ⟨x, hx, hxl⟩ := fok_at hF (idx_lt h1 h2)
  have hxd : F.getD (a.toNat * (n + 1) + i.toNat) [] = x := by rw [List.getD_eq_getElem?_getD, hx]; rfl
  obtain ⟨c, hc⟩ : ∃ c, x[j.toNat]? = some c := ⟨x[j.toNat]'(by omega), List.getElem?_eq_getElem (by omega)⟩
  have hch : chAt n F a.toNat i.toNat j.toNat = c := getM_of hx hc
  refine aops_ix tok [A.psl (n + 1) (rowsF n F a.toNat (n + 1))] rfl rfl rfl rfl h0 (by omega) (by simp) (ends_at h0 h1) rfl rfl rfl ?_
  repeat (refine aops_p tok rfl rfl rfl rfl ?_)
  refine aops_ix tok [A.psl (n + 1) (bools x)] rfl rfl rfl rfl (by omega) (by omega) (by simp) (by rw [← hxd]; exact rows_at (i := i.toNat) (by omega)) rfl rfl rfl ?_
  repeat (refine aops_p tok rfl rfl rfl rfl ?_)
  refine aops_ix tok [A.bool c] rfl rfl rfl rfl (by omega) (by omega) (by simp) (bools_at hc) rfl rfl rfl ?_
  repeat (first | refine aops_end ?_ | refine aops_p tok rfl rfl rfl rfl ?_)
  refine acode_ret ?_
  skip
  exact ⟨.bool (hasF N n F a i j), ⟨rfl, rfl⟩, resOf_tmp (by unfold hasF; rw [decide_eq_true (by omega), hch]; rfl)⟩

def findF (k : Ky) : List Ky → Int → Int
  | [], _ => -1
  | x :: l, i => if x = k then i else findF k l (i + 1)
set_option maxHeartbeats 4000000 in
theorem find_calls {l : List Ky} {k : Ky} (hl : l.length ≤ 9223372036854775807) (M : List Ob) :
    ACalls Try.prog 38 [.psl l.length (encs f3C l), .agg (f3C k)] M (fun r M' => r = .int .i64 (findF k l 0) ∧ M' = M) := by
  refine acalls_of_code 19 Try.func38 rfl rfl rfl ?_
  repeat (first | refine acode_seq ?_ | refine acode_region ?_)
  refine aops_boxf rfl rfl rfl rfl rfl rfl rfl ?_
  repeat (first | refine aops_end ?_ | refine aops_p tok rfl rfl rfl rfl ?_ | refine acode_seq ?_ | refine acode_region ?_ | refine acode_block ?_)
  refine acode_loopS (ι := Nat) (fun i => [(0, .psl l.length (encs f3C l)), (3, .pp (f3C k)), (5, .int .i64 i)]) (fun _ => M) (fun i => l.length - i) (fun i => i ≤ l.length ∧ findF k (l.drop i) i = findF k l 0) 0 ⟨Nat.zero_le _, rfl⟩ ⟨rfl, rfl, rfl, trivial⟩ rfl ?_
  rintro i ⟨hi, hf⟩
  repeat (first | refine aops_end ?_ | refine aops_p tok rfl rfl rfl rfl ?_ | refine acode_seq ?_ | refine acode_region ?_)
  refine acode_id rfl (fun e => ?_) (fun e => ?_)
  · have hil : i < l.length := by omega
    obtain ⟨s, hs⟩ : ∃ s, l[i]? = some s := ⟨l[i], List.getElem?_eq_getElem hil⟩
    have hds : l.drop i = s :: l.drop (i + 1) := by
      rw [List.drop_eq_getElem_cons hil]
      rw [List.getElem?_eq_getElem hil] at hs
      rw [Option.some.inj hs]
    rw [hds, findF] at hf
    repeat (first | refine acode_seq ?_ | refine acode_block ?_ | refine acode_skip ?_ | refine then_n ?_)
    refine acode_drawT 6 mixed (by kernel_rfl) (by kernel_rfl) ?_
    repeat (refine seqT_p tok rfl rfl rfl rfl ?_)
    refine seqT_ix tok (f3C s) rfl rfl rfl rfl (by omega) (by omega) (by simp [f3C]) (encs_at (e := f3C) (s := 3) (fun _ => rfl) (i := (i : Int).toNat) (by simpa using hs)) rfl rfl rfl ?_
    repeat (refine seqT_p tok rfl rfl rfl rfl ?_)
    refine seqT_y (yields_eqst tok (kyL s) (kyL k) rfl rfl rfl (by kernel_rfl) rfl rfl rfl rfl rfl rfl) rfl ?_
    refine SeqT.done ?_
    rw [kyL_eq]
    by_cases hk : s = k
    · rw [if_pos hk] at hf
      rw [decide_eq_true hk, ← hf]
      repeat' (first | refine aops_end ?_ | refine aops_p tok rfl rfl rfl rfl ?_ | refine acode_it rfl ?_ | refine acode_seq ?_ | refine acode_region ?_)
      refine acode_ret ?_
      repeat (first | refine ret_then ?_ | refine ret_block ?_)
      exact ⟨_, ⟨rfl, rfl⟩, resOf_tmp rfl⟩
    · rw [if_neg hk] at hf
      rw [decide_eq_false hk]
      repeat' (first | refine aops_end ?_ | refine aops_a tok rfl (by omega) (by omega) rfl rfl rfl ?_ | refine aops_p tok rfl rfl rfl rfl ?_ | refine acode_if rfl ?_ | refine acode_region ?_ | refine acode_skip ?_ | refine then_n ?_ | refine block_n ?_)
      exact ⟨i + 1, ⟨by omega, hf⟩, by omega, ⟨rfl, rfl, rfl, trivial⟩, rfl⟩
  · obtain rfl : i = l.length := by omega
    rw [List.drop_length, findF] at hf
    rw [← hf]
    refine acode_exit ?_
    repeat (first | refine exit_then ?_ | refine exit_here ?_ | refine then_n ?_)
    repeat (first | refine aops_end ?_ | refine aops_p tok rfl rfl rfl rfl ?_ | refine acode_seq ?_ | refine acode_region ?_)
    refine acode_ret ?_
    skip
    exact ⟨_, ⟨rfl, rfl⟩, resOf_tmp rfl⟩

def aheadF (a b : Ky) : Bool := if a.2.1 ≠ b.2.1 then decide (a.2.1 < b.2.1) else if a.2.2 ≠ b.2.2 then decide (a.2.2 < b.2.2) else decide (a.1 < b.1)
set_option maxHeartbeats 4000000 in
theorem ahead_calls {a b : Ky} (M : List Ob) :
    ACalls Try.prog 39 [.agg (f3C a), .agg (f3C b)] M (fun r M' => r = .bool (aheadF a b) ∧ M' = M) := by
  refine acalls_of_code 32 Try.func39 rfl rfl rfl ?_
  repeat (first | refine acode_seq ?_ | refine acode_region ?_)
  refine aops_boxf rfl rfl rfl rfl rfl rfl rfl ?_
  skip
  refine aops_boxf rfl rfl rfl rfl rfl rfl rfl ?_
  repeat' (first | refine aops_end ?_ | (refine aops_pd tok rfl rfl rfl rfl ?_ ?_ <;> intro e_) | (refine aops_pn tok rfl rfl rfl rfl ?_ ?_ <;> intro e_) | refine aops_p tok rfl rfl rfl rfl ?_ | refine acode_it rfl ?_ | refine acode_if rfl ?_ | refine acode_seq ?_ | refine acode_region ?_ | refine acode_block ?_ | refine acode_skip ?_ | refine then_n ?_ | refine block_n ?_)
  all_goals
    refine acode_ret ?_
    repeat (first | refine ret_then ?_ | refine ret_block ?_)
    refine ⟨.bool (aheadF a b), ⟨rfl, rfl⟩, resOf_tmp ?_⟩
    unfold aheadF
    first
      | (rw [if_pos (by omega)]; first | exact bt (by omega) | exact bf (by omega))
      | (rw [if_neg (by omega), if_pos (by omega)]; first | exact bt (by omega) | exact bf (by omega))
      | (rw [if_neg (by omega), if_neg (by omega)]; first | exact bt (by omega) | exact bf (by omega))
end Go.Proofs.Ytbnhmioijeagiaa.Ab
/- A literal of one's own in a drawn region, and an append that is frozen at once. No condition. -/
set_option linter.unusedVariables false
set_option linter.unusedSimpArgs false
namespace Go.Proofs.Ytbnhmioijeagiaa.Ab
section
variable {P : Program} {T : List TI} {N : Nat} {ops : Array Oper} {rest : List Oper} {o : Oper} {Q : Exit → St → Prop} {E F : Env} {M : List Ob}
theorem seqO_lito (hT : TOk P T) {kp : List Ob} {al : List Nat} {i : Nat} {ll : List Oper} {m d : Nat} {t len e : Nat} {ei : TI} {parts : Array (Nat × Operand)} {r : List A} (hi : al.contains i = true) (ho : o.op = .buildSlice t len parts) (hs : sliceOf T t = some (e, ei)) (hsz : (Nat.blt 0 (len * ei.size) && Nat.ble (len * ei.size) 16777216 && Nat.beq ei.zero.length ei.size) = true)
    (hf : (fillA (fun i => some (i * ei.size, ei.size)) (zerosA (ei.zero.map ofZ) len) (parts.toList.map fun (i, x) => (i, opA F x))).bind normL = some r) (hkp : ∀ o ∈ kp, o ∈ M) (hg : guardOn ops o F = some true) (hd : o.dst = some d) (hN : Nat.blt d N = true)
    (next : ∀ b, SeqO P N ops Q kp al (i + 1) ((d, .own (some b) len len) :: F) (⟨some b, r.length, r⟩ :: M) m ll) : SeqO P N ops Q kp al i F M (m + 1) (o :: ll) := by
  refine SeqO.make (x := fun z => .own (some (z.headD 0)) len len) (M2 := fun z => ⟨some (z.headD 0), r.length, r⟩ :: M) hi (fun E hE rest Q next => ?_) (fun z o ho => List.mem_cons_of_mem _ (hkp o ho)) fun b => ?_
  · refine aops_lito hT ho hs hsz ?_ ((agree_guard hE).trans hg) hd hN fun b => by have := next [b]; rwa [hd] at this
    rw [parts_congr (E := E) (F := F) (fun y hy => agree_op hE (by rw [ho]; exact hy))]
    exact hf
  · rw [hd]; exact next _
theorem eraseIdx_set {α : Type} : ∀ (l : List α) (k : Nat) (y : α), (l.set k y).eraseIdx k = l.eraseIdx k
  | [], _, _ => rfl
  | _ :: _, 0, _ => rfl
  | x :: l, k + 1, y => by simp [eraseIdx_set l k y]
/-- append upon one's own, frozen at once. -/
theorem seqO_appz (hT : TOk P T) {kp : List Ob} {al : List Nat} {i : Nat} {ll : List Oper} {mm : Nat} {t e d : Nat} {ei : TI} {s x : Operand} {ob : Option Nat} {n cap room m : Nat} {cs ds : List A} (k : Nat) (hi : al.contains i = true) (ho : o.op = .call { callee := .builtin .append, args := #[s, x], argTypes := #[t, t] }) (hs : sliceOf T t = some (e, ei))
    (hsv : opA F s = .own ob n cap) (hx : opA F x = .psl m ds) (hM : M[k]? = some ⟨ob, room, cs⟩) (hroom : room = cap * ei.size) (hcs : cs.length = n * ei.size) (hds : ds.length = m * ei.size) (hcell : ds.all A.isCell = true)
    (hz : (Nat.beq ei.zero.length ei.size && Nat.blt 0 ei.size) = true) (hbytes : (n + m) * ei.bytes ≤ 140737488355328) (hlen : n + m ≤ 140737488355328) (hkp : ∀ o ∈ kp, o ∈ M.eraseIdx k) (hg : guardOn ops o F = some true) (hd : o.dst = some d) (hN : Nat.blt d N = true)
    (next : SeqO P N ops Q kp al (i + 1) ((d, .psl (n + m) (cs ++ ds)) :: F) (M.eraseIdx k) mm ll) : SeqO P N ops Q kp al i F M (mm + 1) (o :: ll) := by
  refine SeqO.make (x := fun _ => .psl (n + m) (cs ++ ds)) (M2 := fun _ => M.eraseIdx k) hi (fun E hE rest Q next => ?_) (fun z o ho => hkp o ho) fun z => ?_
  · have e1 : ∀ y ∈ o.op.operands, opA E y = opA F y := fun y hy => agree_op hE hy
    have ex : opA E x = opA F x := e1 x (by rw [ho]; simp [Op.operands, Call.operands])
    refine aops_append hT k ho hs ((e1 s (by rw [ho]; simp [Op.operands, Call.operands])).trans hsv) (by rw [ex]; exact .inl hx) hM hroom hcs hds hcell hz hbytes hlen ((agree_guard hE).trans hg) (by rw [hd]; exact hN) fun ob' cap' => ?_
    have nx := next []
    rw [hd] at nx ⊢
    have hz2 := hz
    simp only [Bool.and_eq_true] at hz2
    have hkl : k < M.length := (List.getElem?_eq_some_iff.1 hM).1
    refine aops_publish d k (ob := ob') (n := n + m) (cap := cap') (room := cap' * ei.size) (cs := cs ++ ds) ei.size (by simp [put, get]) (by rw [List.getElem?_set_self hkl]) rfl (by rw [List.length_append, hcs, hds, Nat.add_mul]) (by simpa using hz2.2) ?_
    rw [eraseIdx_set]
    refine aops_weaken (fun K G a w hi => ⟨G, inv_E hi fun s v hr => ?_⟩) nx
    simp only [get, put] at hr ⊢
    cases hb : Nat.beq d s <;> rw [hb] at hr <;> exact hr
  · rw [hd]; exact next
end
end Go.Proofs.Ytbnhmioijeagiaa.Ab

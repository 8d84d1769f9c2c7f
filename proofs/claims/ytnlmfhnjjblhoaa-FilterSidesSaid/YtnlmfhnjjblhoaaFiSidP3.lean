/- Texts of this proof, one behind the other (For7, Ab9, Unf6, Unf2, Unf3, Unf4, Unf5, Unf7, Tre4, Unf8, Unf9, Gra0, Chk1, Chk2, Chk3, Chk4). No condition. -/
import Derived.Test.YtnlmfhnjjblhoaaFiSidP2
/- The reference's numbers of trees, and how deep: the walk. No condition. -/
set_option linter.unusedVariables false
set_option linter.unusedSimpArgs false
namespace Go.Proofs.Ytnlmfhnjjblhoaa.Ab
attribute [local irreducible] thenA inBlockA ACode AOps put IntKind.wrap

theorem isN_one : isN 1 := ⟨by decide, by decide⟩
theorem plus_calls {a b : Int} (ha : isN a) (hb : isN b) (M : List Ob) : ACalls Try.prog 67 [.int .i64 a, .int .i64 b] M (fun r M' => r = .int .i64 (addN a b) ∧ M' = M) := by
  obtain ⟨a0, a1⟩ := ha; obtain ⟨b0, b1⟩ := hb
  unfold great at a1 b1
  refine acalls_of_code 12 Try.func67 rfl rfl rfl ?_
  repeat' (first | refine aops_end ?_ | refine aops_a tok rfl (by omega) (by omega) rfl rfl rfl ?_ | (refine aops_pd tok rfl rfl rfl rfl ?_ ?_ <;> intro e_) | refine aops_p tok rfl rfl rfl rfl ?_ | refine acode_it rfl ?_ | refine acode_if rfl ?_ | refine acode_seq ?_ | refine acode_region ?_ | refine acode_skip ?_ | refine then_n ?_)
  · refine acode_ret ?_
    repeat (refine ret_then ?_)
    exact ⟨.int .i64 (addN a b), ⟨rfl, rfl⟩, resOf_tmp (by show A.int _ _ = A.int _ _; unfold addN great; rw [if_pos e_])⟩
  · refine acode_ret ?_
    skip
    exact ⟨.int .i64 (addN a b), ⟨rfl, rfl⟩, resOf_tmp (by show A.int _ _ = A.int _ _; unfold addN great; rw [if_neg e_])⟩

theorem rtimes_calls {a b : Int} (ha : isN a) (hb : isN b) (M : List Ob) : ACalls Try.prog 79 [.int .i64 a, .int .i64 b] M (fun r M' => r = .int .i64 (mulN a b) ∧ M' = M) := by
  obtain ⟨a0, a1⟩ := ha; obtain ⟨b0, b1⟩ := hb
  unfold great at a1 b1
  refine acalls_of_code 18 Try.func79 rfl rfl rfl ?_
  repeat' (first | refine aops_end ?_ | refine aops_o rfl rfl rfl ?_ | (refine aops_pd tok rfl rfl rfl rfl ?_ ?_ <;> intro e_) | refine aops_p tok rfl rfl rfl rfl ?_ | refine acode_it rfl ?_ | refine acode_if rfl ?_ | refine acode_seq ?_ | refine acode_region ?_ | refine acode_skip ?_ | refine then_n ?_)
  · refine acode_ret ?_
    repeat (refine ret_then ?_)
    exact ⟨.int .i64 (mulN a b), ⟨rfl, rfl⟩, resOf_tmp (by show A.int _ _ = A.int _ _; unfold mulN; rw [if_pos (.inl e_)])⟩
  · refine acode_ret ?_
    repeat (refine ret_then ?_)
    exact ⟨.int .i64 (mulN a b), ⟨rfl, rfl⟩, resOf_tmp (by show A.int _ _ = A.int _ _; unfold mulN; rw [if_pos (.inr e_)])⟩
  · rename_i e1
    have hne : ¬ (a = 0 ∨ b = 0) := by rintro (h | h); exact e1 h; exact e_ h
    have hb : 0 < b := by omega
    refine aops_quo rfl rfl rfl (by decide) (by decide) hb rfl rfl rfl ?_
    repeat' (first | refine aops_end ?_ | (refine aops_pd tok rfl rfl rfl rfl ?_ ?_ <;> intro e_) | refine aops_p tok rfl rfl rfl rfl ?_ | refine acode_it rfl ?_ | refine acode_if rfl ?_ | refine acode_seq ?_ | refine acode_region ?_ | refine acode_skip ?_ | refine then_n ?_)
    · refine acode_ret ?_
      repeat (refine ret_then ?_)
      exact ⟨.int .i64 (mulN a b), ⟨rfl, rfl⟩, resOf_tmp (by show A.int _ _ = A.int _ _; unfold mulN great; rw [if_neg hne, if_pos e_])⟩
    · have hle : a * b ≤ 4611686018427387903 := mul_le_of hb (by unfold great; omega)
      have h0 : 0 ≤ a * b := Int.mul_nonneg a0 b0
      have hwr : IntKind.i64.wrap (a * b) = a * b := wrap64_small (by omega) (by omega)
      refine acode_ret ?_
      skip
      exact ⟨.int .i64 (mulN a b), ⟨rfl, rfl⟩, resOf_tmp (by show A.int _ (IntKind.i64.wrap (a * b)) = A.int _ _; rw [hwr]; unfold mulN great; rw [if_neg hne, if_neg e_])⟩

/-- What a counter keeps. -/
structure Kp (f : Fo) (ks : List Int) : Prop where
  len : ks.length = f.nodes.length
  val : ∀ (j : Nat) x, ks[j]? = some x → x = -1 ∨ x = trees f j
abbrev wkC (f : Fo) (b bs : Nat) (ks : List Int) (M : List Ob) : List Ob :=
  ⟨some b, 3, [.psl f.nodes.length (encs ndC f.nodes), .int .i64 f.root, .own (some bs) f.nodes.length f.nodes.length]⟩ :: ⟨some bs, f.nodes.length * 1, ints ks⟩ :: M
/-- That a node is counted. -/
def CntN (f : Fo) (b bs : Nat) (M : List Ob) (i : Nat) : Prop := ∀ ks, Kp f ks →
  ACalls Try.prog 41 [.ref b 0, .int .i64 i] (wkC f b bs ks M) (fun r M' => r = .int .i64 (trees f i) ∧ ∃ ks', Kp f ks' ∧ M' = wkC f b bs ks' M)

theorem ralt_calls {f : Fo} {b bs : Nat} {M : List Ob} {a : Al} (ha : a.kids.length ≤ 9223372036854775807) (hw : ∀ k : Nat, (k : Int) ∈ a.kids → WF f k ∧ CntN f b bs M k) {ks : List Int} (hks : Kp f ks) :
    ACalls Try.prog 68 [.ref b 0, .agg (alC a)] (wkC f b bs ks M) (fun r M' => r = .int .i64 (altF (trees f) 1 a.kids) ∧ ∃ ks', Kp f ks' ∧ M' = wkC f b bs ks' M) := by
  refine acalls_of_code 30 Try.func68 rfl rfl rfl ?_
  repeat (first | refine acode_seq ?_ | refine acode_region ?_)
  refine aops_boxf rfl rfl rfl rfl rfl rfl rfl ?_
  repeat (first | refine aops_end ?_ | refine aops_p tok rfl rfl rfl rfl ?_ | refine acode_seq ?_ | refine acode_region ?_ | refine acode_block ?_)
  refine acode_loopS (ι := Nat × Int × List Int) (fun p => [(0, .ref b 0), (3, .pp (alC a)), (5, .int .i64 p.2.1), (6, .int .i64 p.1)]) (fun p => wkC f b bs p.2.2 M) (fun p => a.kids.length - p.1) (fun p => p.1 ≤ a.kids.length ∧ isN p.2.1 ∧ Kp f p.2.2 ∧ altF (trees f) p.2.1 (a.kids.drop p.1) = altF (trees f) 1 a.kids) (0, 1, ks) ⟨Nat.zero_le _, isN_one, hks, rfl⟩ ⟨rfl, rfl, rfl, rfl, trivial⟩ rfl ?_
  clear hks ks
  rintro ⟨i, n, ks⟩ ⟨hi, hn, hks, hF⟩
  simp only at hi hn hks hF ⊢
  repeat (first | refine aops_end ?_ | refine aops_p tok rfl rfl rfl rfl ?_ | refine acode_seq ?_ | refine acode_region ?_)
  refine acode_id rfl (fun e => ?_) (fun e => ?_)
  · have hil : i < a.kids.length := by omega
    obtain ⟨k, hk'⟩ : ∃ k, a.kids[i]? = some k := ⟨a.kids[i], List.getElem?_eq_getElem hil⟩
    have hkm := List.mem_of_getElem? hk'
    have hdr : a.kids.drop i = k :: a.kids.drop (i + 1) := by
      rw [List.drop_eq_getElem_cons hil]
      rw [List.getElem?_eq_getElem hil] at hk'
      rw [Option.some.inj hk']
    rw [hdr] at hF
    simp only [altF, List.foldl_cons] at hF
    repeat (first | refine aops_p tok rfl rfl rfl rfl ?_ | refine acode_seq ?_ | refine acode_region ?_ | refine acode_block ?_ | refine acode_skip ?_ | refine then_n ?_)
    refine aops_ix tok [A.int .i64 k] rfl rfl rfl rfl (by omega) (by omega) (by simp) (ints_at (j := i) (by simpa using hk')) rfl rfl rfl ?_
    repeat' (first | refine aops_end ?_ | refine aops_a tok rfl (by omega) (by omega) rfl rfl rfl ?_ | (refine aops_pd tok rfl rfl rfl rfl ?_ ?_ <;> intro e_) | refine aops_p tok rfl rfl rfl rfl ?_ | refine acode_it rfl ?_ | refine acode_if rfl ?_ | refine acode_region ?_ | refine acode_skip ?_ | refine then_n ?_ | refine block_n ?_)
    · obtain ⟨k', rfl⟩ : ∃ k' : Nat, k = k' := ⟨k.toNat, by omega⟩
      obtain ⟨hwk, hck⟩ := hw k' hkm
      refine aops_ix tok [A.int .i64 k'] rfl rfl rfl rfl (by omega) (by omega) (by simp) (ints_at (j := i) (by simpa using hk')) rfl rfl rfl ?_
      repeat (refine aops_p tok rfl rfl rfl rfl ?_)
      refine aops_call Try.func41 rfl rfl rfl rfl (hck ks hks) rfl rfl ?_
      rintro x M' ⟨rfl, ks2, hks2, rfl⟩
      repeat (refine aops_put rfl ?_)
      refine aops_callx Try.func79 rfl rfl rfl rfl (rtimes_calls hn (trees_is hwk) _) rfl rfl rfl ?_
      repeat (first | refine aops_end ?_ | refine aops_endb ?_ | refine aops_a tok rfl (by omega) (by omega) rfl rfl rfl ?_ | refine aops_p tok rfl rfl rfl rfl ?_ | refine acode_region ?_ | refine then_n ?_)
      rw [if_pos (by omega)] at hF
      exact ⟨(i + 1, mulN n (trees f k'), ks2), ⟨by simp; omega, mulN_is hn (trees_is hwk), hks2, hF⟩, by simp; omega, ⟨rfl, rfl, rfl, rfl, trivial⟩, rfl⟩
    · rw [if_neg (by omega)] at hF
      exact ⟨(i + 1, n, ks), ⟨by simp; omega, hn, hks, hF⟩, by simp; omega, ⟨rfl, rfl, rfl, rfl, trivial⟩, rfl⟩
  · have hge : i = a.kids.length := by omega
    subst hge
    rw [List.drop_length] at hF
    refine acode_exit ?_
    repeat (first | refine exit_then ?_ | refine exit_here ?_ | refine then_n ?_)
    repeat (first | refine aops_end ?_ | refine aops_p tok rfl rfl rfl rfl ?_ | refine acode_seq ?_ | refine acode_region ?_)
    refine acode_ret ?_
    skip
    exact ⟨_, ⟨by rw [← hF]; rfl, ks, hks, rfl⟩, resOf_tmp rfl⟩

theorem rnode_calls {f : Fo} (hf : FoOk f) (b bs : Nat) (M : List Ob) {i : Nat} (hwf : WF f i) : CntN f b bs M i := by
  obtain ⟨hf1, hf2⟩ := id hf
  induction hwf with
  | @mk i hi hkn hkw ih =>
  intro ks hks
  have hwf : WF f i := .mk hi hkn hkw
  have hlt : i < ks.length := by rw [hks.len]; exact hi
  obtain ⟨s, hs⟩ : ∃ s, ks[i]? = some s := ⟨ks[i], List.getElem?_eq_getElem hlt⟩
  have hsA : (ints ks)[i * 1]? = some (A.int .i64 s) := by rw [Nat.mul_one]; exact ints_get hs
  have hti := trees_is hwf
  refine acalls_of_code 54 Try.func41 rfl rfl rfl ?_
  repeat (first | refine aops_end ?_ | refine aops_p tok rfl rfl rfl rfl ?_ | refine aops_ld tok 0 rfl rfl rfl rfl rfl rfl rfl rfl ?_ | refine acode_seq ?_ | refine acode_region ?_)
  refine aops_ixo tok rfl rfl rfl rfl (by omega) (by omega) rfl rfl rfl ?_
  refine aops_ld tok 1 (y := .int .i64 s) rfl rfl rfl rfl (by rw [headed_eq]; exact hsA) rfl rfl rfl ?_
  repeat' (first | refine aops_end ?_ | (refine aops_pd tok rfl rfl rfl rfl ?_ ?_ <;> intro e_) | refine aops_p tok rfl rfl rfl rfl ?_ | refine acode_it rfl ?_ | refine acode_if rfl ?_ | refine aops_ld tok 0 rfl rfl rfl rfl rfl rfl rfl rfl ?_ | refine acode_seq ?_ | refine acode_region ?_ | refine acode_skip ?_ | refine then_n ?_)
  · refine aops_ixo tok rfl rfl rfl rfl (by omega) (by omega) rfl rfl rfl ?_
    refine aops_ld tok 1 (y := .int .i64 s) rfl rfl rfl rfl (by rw [headed_eq]; exact hsA) rfl rfl rfl ?_
    repeat (first | refine aops_end ?_ | refine aops_p tok rfl rfl rfl rfl ?_)
    have : s = trees f i := by rcases hks.val i s hs with h | h; omega; exact h
    subst this
    refine acode_ret ?_
    repeat (refine ret_then ?_)
    exact ⟨_, ⟨rfl, ks, hks, rfl⟩, resOf_tmp rfl⟩
  · obtain ⟨nd, hnd, hndm, hal⟩ := nodes_at hi
    obtain ⟨hal1, hal2⟩ := hf2 nd hndm
    refine aops_ix tok (ndC nd) rfl rfl rfl rfl (by omega) (by omega) (by simp [ndC]) (nd_at hnd) rfl rfl rfl ?_
    repeat (first | refine aops_end ?_ | refine aops_p tok rfl rfl rfl rfl ?_ | refine acode_seq ?_ | refine acode_region ?_ | refine acode_block ?_)
    refine acode_loopS (ι := Nat × List Int) (fun p => [(0, .ref b 0), (1, .int .i64 i), (6, .psl nd.alts.length (encs alC nd.alts)), (5, .int .i64 (altsF (trees f) 0 (nd.alts.take p.1))), (7, .int .i64 p.1)]) (fun p => wkC f b bs p.2 M) (fun p => nd.alts.length - p.1) (fun p => p.1 ≤ nd.alts.length ∧ Kp f p.2) (0, ks) ⟨Nat.zero_le _, hks⟩ ⟨rfl, rfl, rfl, rfl, rfl, trivial⟩ rfl ?_
    clear hsA hs hlt hks ks
    rintro ⟨q, ks⟩ ⟨hq, hks⟩
    simp only at hq hks ⊢
    repeat (first | refine aops_end ?_ | refine aops_p tok rfl rfl rfl rfl ?_ | refine acode_seq ?_ | refine acode_region ?_)
    refine acode_id rfl (fun e2 => ?_) (fun e2 => ?_)
    · have hql : q < nd.alts.length := by omega
      obtain ⟨a, ha⟩ : ∃ a, nd.alts[q]? = some a := ⟨nd.alts[q], List.getElem?_eq_getElem hql⟩
      have ham := List.mem_of_getElem? ha
      have hkd : ∀ k : Nat, (k : Int) ∈ a.kids → Kid f i k := fun k hk => ⟨a, by rw [hal]; exact ham, hk⟩
      have hsum := altsF_add (trees f) ha
      have hsN : isN (altsF (trees f) 0 (nd.alts.take q)) := altsF_is _ _ ⟨by decide, by decide⟩ fun b hb k hk => trees_is (hkw k ⟨b, by rw [hal]; exact List.mem_of_mem_take hb, hk⟩)
      have haN : isN (altF (trees f) 1 a.kids) := altF_is _ _ ⟨by decide, by decide⟩ fun k hk => trees_is (hkw k (hkd k hk))
      repeat (first | refine aops_p tok rfl rfl rfl rfl ?_ | refine acode_seq ?_ | refine acode_region ?_ | refine acode_block ?_ | refine acode_skip ?_ | refine then_n ?_)
      refine aops_ix tok (alC a) rfl rfl rfl rfl (by omega) (by omega) (by simp [alC]) (al_at ha) rfl rfl rfl ?_
      repeat (refine aops_p tok rfl rfl rfl rfl ?_)
      refine aops_call Try.func68 rfl rfl rfl rfl (ralt_calls (by have := hal2 a ham; omega) (fun k hk => ⟨hkw k (hkd k hk), ih k (hkd k hk)⟩) hks) rfl rfl ?_
      rintro x M' ⟨rfl, ks2, hks2, rfl⟩
      repeat (refine aops_put rfl ?_)
      refine aops_callx Try.func67 rfl rfl rfl rfl (plus_calls hsN haN _) rfl rfl rfl ?_
      rw [← hsum]
      repeat (first | refine aops_end ?_ | refine aops_endb ?_ | refine aops_a tok rfl (by omega) (by omega) rfl rfl rfl ?_ | refine aops_p tok rfl rfl rfl rfl ?_ | refine acode_region ?_ | refine then_n ?_)
      exact ⟨(q + 1, ks2), ⟨by simp; omega, hks2⟩, by simp; omega, ⟨rfl, rfl, rfl, rfl, rfl, trivial⟩, rfl⟩
    · have hge : q = nd.alts.length := by omega
      subst hge
      have heq := trees_eq hwf
      rw [hal] at heq
      rw [List.take_length, ← heq]
      have hlt : i < ks.length := by rw [hks.len]; exact hi
      refine acode_exit ?_
      repeat (first | refine exit_then ?_ | refine exit_here ?_ | refine then_n ?_)
      repeat (first | refine aops_p tok rfl rfl rfl rfl ?_ | refine aops_ld tok 0 rfl rfl rfl rfl rfl rfl rfl rfl ?_ | refine acode_seq ?_ | refine acode_region ?_)
      refine aops_ixo tok rfl rfl rfl rfl (by omega) (by omega) rfl rfl rfl ?_
      refine aops_stk tok 1 (ints (ks.set i (trees f i))) (wkC f b bs (ks.set i (trees f i)) M) rfl rfl rfl rfl rfl rfl (by rw [ints_len]; show i * 1 + 1 ≤ _; omega) (ints_set1 hlt _) rfl rfl rfl ?_
      repeat (first | refine aops_end ?_ | refine aops_p tok rfl rfl rfl rfl ?_ | refine acode_seq ?_ | refine acode_region ?_)
      refine acode_ret ?_
      skip
      refine ⟨_, ⟨rfl, ks.set i (trees f i), ⟨by simp [hks.len], fun j x hx => ?_⟩, rfl⟩, resOf_tmp rfl⟩
      rw [List.getElem?_set] at hx
      by_cases h : i = j
      · subst h; rw [if_pos rfl, if_pos hlt] at hx; exact .inr (Option.some.inj hx).symm
      · rw [if_neg h] at hx; exact hks.val j x hx

theorem counts_calls {f : Fo} (hf : FoOk f) (M : List Ob) : ACalls Try.prog 40 [foA f] M (fun r M' => ∃ z : List Nat, r = .ref (z.headD 0) 0 ∧ M' = wkC f (z.headD 0) (z.getD 1 0) (List.replicate f.nodes.length (-1)) M) := by
  obtain ⟨hf1, hf2⟩ := id hf
  refine acalls_of_code 28 Try.func40 rfl rfl rfl ?_
  repeat (first | refine acode_seq ?_ | refine acode_region ?_)
  refine aops_boxf rfl rfl rfl rfl rfl rfl rfl ?_
  repeat (first | refine aops_end ?_ | refine aops_p tok rfl rfl rfl rfl ?_ | refine acode_seq ?_)
  refine acode_drawP [] 7 [0, 1, 2, 3, 4, 5, 6] [4, 6] mixed (by kernel_rfl) (by kernel_rfl) rfl ?_
  repeat (refine seqO_p tok rfl rfl rfl rfl rfl ?_)
  refine seqO_mk tok f.nodes.length rfl rfl rfl rfl rfl rfl rfl (by show _ * 8 ≤ _; omega) (by omega) (by simp) rfl rfl rfl fun bs => ?_
  repeat (refine seqO_p tok rfl rfl rfl rfl rfl ?_)
  refine seqO_boxo rfl rfl rfl rfl (by simp) rfl rfl rfl rfl fun b => ?_
  refine SeqO.done ?_
  repeat (refine aops_p tok rfl rfl rfl rfl ?_)
  refine aops_end ?_
  refine acode_M (M' := wkC f b bs (List.replicate f.nodes.length 0) M) (by simp only [wkC]; rw [← ints_zeros]; rfl) ?_
  repeat (first | refine aops_end ?_ | refine aops_p tok rfl rfl rfl rfl ?_ | refine acode_seq ?_ | refine acode_region ?_ | refine acode_block ?_)
  refine acode_loopS (ι := Nat) (fun p => [(3, .ref b 0), (4, .int .i64 p)]) (fun p => wkC f b bs (List.replicate p (-1) ++ List.replicate (f.nodes.length - p) 0) M) (fun p => f.nodes.length - p) (fun p => p ≤ f.nodes.length) 0 (Nat.zero_le _) ⟨rfl, rfl, trivial⟩ (by simp) ?_
  intro p hp
  repeat (first | refine aops_end ?_ | refine aops_p tok rfl rfl rfl rfl ?_ | refine aops_ld tok 0 rfl rfl rfl rfl rfl rfl rfl rfl ?_ | refine acode_seq ?_ | refine acode_region ?_)
  refine acode_id rfl (fun e => ?_) (fun e => ?_)
  · have hpl : p < f.nodes.length := by omega
    have hset : (List.replicate p (-1 : Int) ++ List.replicate (f.nodes.length - p) 0).set p (-1) = List.replicate (p + 1) (-1) ++ List.replicate (f.nodes.length - (p + 1)) 0 := by
      rw [List.set_append_right _ _ (by simp)]
      simp only [List.length_replicate, Nat.sub_self]
      rw [show f.nodes.length - p = (f.nodes.length - (p + 1)) + 1 from by omega, List.replicate_succ, List.set_cons_zero, List.replicate_succ', List.append_assoc]
      rfl
    have hlen : (List.replicate p (-1 : Int) ++ List.replicate (f.nodes.length - p) 0).length = f.nodes.length := by simp; omega
    generalize List.replicate p (-1 : Int) ++ List.replicate (f.nodes.length - p) 0 = ks at *
    repeat (first | refine aops_p tok rfl rfl rfl rfl ?_ | refine aops_ld tok 0 rfl rfl rfl rfl rfl rfl rfl rfl ?_ | refine acode_seq ?_ | refine acode_region ?_ | refine acode_block ?_ | refine acode_skip ?_ | refine then_n ?_)
    refine aops_ixo tok rfl rfl rfl rfl (by omega) (by omega) rfl rfl rfl ?_
    refine aops_stk tok 1 (ints (ks.set p (-1))) (wkC f b bs (ks.set p (-1)) M) rfl rfl rfl rfl rfl rfl (by rw [ints_len, hlen]; show p * 1 + 1 ≤ _; omega) (ints_set1 (by omega) _) rfl rfl rfl ?_
    repeat (first | refine aops_end ?_ | refine aops_endb ?_ | refine aops_a tok rfl (by omega) (by omega) rfl rfl rfl ?_ | refine aops_p tok rfl rfl rfl rfl ?_ | refine acode_region ?_ | refine then_n ?_)
    exact ⟨p + 1, by omega, by omega, ⟨rfl, rfl, trivial⟩, by rw [hset]⟩
  · have hge : p = f.nodes.length := by omega
    subst hge
    refine acode_exit ?_
    repeat (first | refine exit_then ?_ | refine exit_here ?_ | refine then_n ?_)
    repeat (first | refine aops_end ?_ | refine aops_p tok rfl rfl rfl rfl ?_ | refine acode_seq ?_ | refine acode_region ?_)
    refine acode_ret ?_
    skip
    exact ⟨_, ⟨[b, bs], rfl, by simp⟩, resOf_tmp rfl⟩

theorem rtrees_calls {f : Fo} (hf : FoOk f) (M : List Ob) : ACalls Try.prog 16 [foA f] M (fun r M' => (FForm f ∧ r = .tup [.int .i64 (trees f f.root.toNat), .bool (decide (trees f f.root.toNat < great))] ∨ ¬ FForm f ∧ r = .tup [.int .i64 0, .bool false]) ∧ M' = M) := by
  obtain ⟨hf1, hf2⟩ := id hf
  refine acalls_of_code 16 Try.func16 rfl rfl rfl ?_
  repeat (first | refine acode_seq ?_ | refine acode_region ?_)
  refine aops_boxf rfl rfl rfl rfl rfl rfl rfl ?_
  repeat (first | refine aops_end ?_ | refine aops_p tok rfl rfl rfl rfl ?_ | refine acode_seq ?_ | refine acode_region ?_)
  refine aops_call Try.func18 rfl rfl rfl rfl (rfform_calls hf M) rfl rfl ?_
  rintro x M' ⟨hx, hM⟩
  obtain rfl : M = M' := hM.symm
  rcases hx with ⟨h, rfl⟩ | ⟨h, rfl⟩
  · obtain ⟨⟨h0, h1⟩, hw⟩ := id h
    obtain ⟨r, hr⟩ : ∃ r : Nat, f.root = r := ⟨f.root.toNat, by omega⟩
    have hwr : WF f r := hw r (by omega)
    repeat' (first | refine aops_put rfl ?_ | refine aops_end ?_ | refine aops_p tok rfl rfl rfl rfl ?_ | refine acode_if rfl ?_ | refine acode_seq ?_ | refine acode_skip ?_ | refine then_n ?_)
    refine acode_drawP [] 4 [0, 2, 3, 1] [3] mixed (by kernel_rfl) (by kernel_rfl) rfl ?_
    repeat (refine seqO_p tok rfl rfl rfl rfl rfl ?_)
    refine seqO_callm (fun z => .ref (z.headD 0) 0) (fun z => wkC f (z.headD 0) (z.getD 1 0) (List.replicate f.nodes.length (-1)) []) rfl Try.func40 rfl rfl rfl rfl (counts_calls hf M) (by simp) rfl rfl rfl fun z => ?_
    refine SeqO.done ?_
    generalize z.headD 0 = b
    generalize z.getD 1 0 = bs
    rw [hr]
    refine aops_call Try.func41 rfl rfl rfl rfl (rnode_calls hf b bs M hwr _ ⟨by simp, fun j x hx => .inl ?_⟩) rfl rfl ?_
    · rw [List.getElem?_replicate] at hx
      split at hx
      · exact (Option.some.inj hx).symm
      · cases hx
    rintro x M' ⟨rfl, ks2, hks2, rfl⟩
    repeat (first | refine aops_put rfl ?_ | refine aops_end ?_ | refine aops_p tok rfl rfl rfl rfl ?_ | refine acode_seq ?_ | refine acode_region ?_)
    refine acode_drop0 (acode_drop0 (acode_ret ?_))
    skip
    exact ⟨_, ⟨.inl ⟨h, by rw [Int.toNat_natCast]; rfl⟩, rfl⟩, _, _, rfl, resOf_tmp rfl, resOf_tmp rfl⟩
  · repeat' (first | refine aops_put rfl ?_ | refine aops_end ?_ | refine aops_p tok rfl rfl rfl rfl ?_ | refine acode_it rfl ?_ | refine acode_seq ?_ | refine acode_region ?_)
    refine acode_ret ?_
    repeat (refine ret_then ?_)
    exact ⟨_, ⟨.inr ⟨h, rfl⟩, rfl⟩, _, _, rfl, resOf_tmp rfl, resOf_tmp rfl⟩
end Go.Proofs.Ytnlmfhnjjblhoaa.Ab
/- Where ways meet again in one of many states; calls that change objects in drawn regions. No condition. -/
set_option linter.unusedVariables false
set_option linter.unusedSimpArgs false
namespace Go.Proofs.Ytnlmfhnjjblhoaa.Ab
section
variable {P : Program} {T : List TI} {N : Nat} {ops : Array Oper} {rest : List Oper} {o : Oper} {Q : Exit → St → Prop} {E F : Env} {M : List Ob}
/-- Where ways meet again: one of a family of states. -/
theorem acode_joinI {ι : Type} {c y : Code} {Q2 : Exit → St → Prop} {st : St} (S : ι → Env) (L : ι → List Ob) (I : ι → Prop) (hx : ACode P N c (thenA (fun s => ∃ i, I i ∧ subE (S i) s.E ∧ s.M = L i) Q) st) (hy : ∀ i, I i → ACode P N y Q2 ⟨S i, L i⟩) : ACode P N c (thenA (ACode P N y Q2) Q) st := by
  refine hx.mono ?_
  rintro e ⟨E1, M1⟩ h
  cases e with
  | normal =>
    obtain ⟨i, h0, h1, h2⟩ := h
    simp only at h1 h2
    subst h2
    exact acode_sub (S i) h1 (hy i h0)
  | _ => exact h
/-- Numbers out of a natural one. -/
def decI (n : Nat) : Int := if n % 2 = 0 then ((n / 2 : Nat) : Int) else -(((n / 2 : Nat) : Int)) - 1
theorem decI_surj (i : Int) : ∃ n, decI n = i := by
  by_cases h : 0 ≤ i
  · refine ⟨2 * i.toNat, ?_⟩
    unfold decI
    rw [if_pos (by omega), Nat.mul_div_cancel_left _ (by decide)]
    omega
  · refine ⟨2 * (-i - 1).toNat + 1, ?_⟩
    unfold decI
    rw [if_neg (by omega)]
    omega
theorem decL_surj (l : List Int) : ∃ z : List Nat, z.map decI = l := by
  induction l with
  | nil => exact ⟨[], rfl⟩
  | cons i l ih =>
    obtain ⟨z, rfl⟩ := ih
    obtain ⟨n, rfl⟩ := decI_surj i
    exact ⟨n :: z, rfl⟩
/-- A row of numbers of which something holds, by a row of natural ones. -/
theorem decP (p : List Int → Prop) {l0 : List Int} (h0 : p l0) : ∃ d : List Nat → List Int, (∀ z, p (d z)) ∧ ∀ l, p l → ∃ z, d z = l := by
  classical
  refine ⟨fun z => if p (z.map decI) then z.map decI else l0, fun z => ?_, fun l hl => ?_⟩
  · show p (if _ then _ else _)
    split
    · assumption
    · exact h0
  · obtain ⟨z, rfl⟩ := decL_surj l
    exact ⟨z, if_pos hl⟩
/-- A call that changes objects, in a drawn region. -/
theorem seqO_callw {kp : List Ob} {al : List Nat} {i : Nat} {ll : List Oper} {n d : Nat} {g : Operand} {args : Array Operand} {tys : Array TypeId} {f : FuncId} {cap aS : List A} {fn : Func} (x : List Nat → A) (M2 : List Nat → List Ob) (hi : al.contains i = true) (hf : P.funcs[f]? = some fn) (ho : o.op = .call { callee := .value g, args, argTypes := tys }) (hgv : opA F g = .fn f cap)
    (hfn : callable fn = true) (has : args.toList.map (opA F) ++ cap = aS) (hc : ACalls P f aS M (fun r M' => ∃ z, r = x z ∧ M' = M2 z)) (hkp : ∀ z, ∀ o ∈ kp, o ∈ M2 z) (hg : guardOn ops o F = some true) (hd : o.dst = some d) (hN : Nat.blt d N = true)
    (next : ∀ z, SeqO P N ops Q kp al (i + 1) ((d, x z) :: F) (M2 z) n ll) : SeqO P N ops Q kp al i F M (n + 1) (o :: ll) := by
  refine SeqO.make (x := x) (M2 := M2) hi (fun E hE rest Q next => ?_) hkp fun b => ?_
  · refine aops_call hf ho ((agree_op hE (by rw [ho]; simp [Op.operands, Call.operands])).trans hgv) hfn (by rw [map_congr_ops (E := E) (F := F) (fun y hy => agree_op hE (by rw [ho]; simp [Op.operands, Call.operands, hy]))]; exact has) hc ((agree_guard hE).trans hg) (by rw [hd]; exact hN) ?_
    rintro y M' ⟨z, rfl, rfl⟩
    exact next z
  · rw [hd]; exact next b
theorem yields_quo {t t' : Nat} {x y : Operand} {a b : Int} (ho : o.op = .binOp .quo t x y t') (hx : opA F x = .int .i64 a) (hy : opA F y = .int .i64 b) (ha : 0 ≤ a) (ha' : a ≤ 9223372036854775807) (hb : 0 < b) (hg : guardOn ops o F = some true) {d : Nat} (hd : o.dst = some d) (hN : Nat.blt d N = true) : Yields P N ops o (.int .i64 (a / b)) F M := by
  intro E hE rest Q next
  rw [hd] at next
  exact aops_quo ho ((agree_op hE (by rw [ho]; simp [Op.operands])).trans hx) ((agree_op hE (by rw [ho]; simp [Op.operands])).trans hy) ha ha' hb ((agree_guard hE).trans hg) hd hN next
theorem seqO_quo {kp : List Ob} {al : List Nat} {i : Nat} {ll : List Oper} {m : Nat} {d t t' : Nat} {x y : Operand} {a b : Int} (hi : al.contains i = false) (ho : o.op = .binOp .quo t x y t') (hx : opA F x = .int .i64 a) (hy : opA F y = .int .i64 b) (ha : 0 ≤ a) (ha' : a ≤ 9223372036854775807) (hb : 0 < b) (hg : guardOn ops o F = some true) (hd : o.dst = some d) (hN : Nat.blt d N = true)
    (next : SeqO P N ops Q kp al (i + 1) ((d, .int .i64 (a / b)) :: F) M m ll) : SeqO P N ops Q kp al i F M (m + 1) (o :: ll) :=
  seqO_y hi (fun M' => yields_quo ho hx hy ha ha' hb hg hd hN) hd next
/-- A nil argument, taken as one's own slice of nothing. -/
theorem acalls_nil0 {f : FuncId} {xs ys : List A} {R : A → List Ob → Prop} (h : ∀ (G : Gh) vs, RepL G xs vs → RepL G ys vs) (hc : ACalls P f ys (⟨none, 0, []⟩ :: M) R) : ACalls P f xs M R := by
  intro G w vs hok hl
  refine hc G w vs ?_ (h G vs hl)
  refine ⟨hok.g, hok.os, hok.tape, hok.output, hok.size, hok.fr, hok.fz, ?_, ?_, ?_, ?_, hok.nd, hok.mz⟩
  · intro o ho b hb
    rcases List.mem_cons.1 ho with rfl | ho
    · cases hb
    · exact hok.ow o ho b hb
  · intro o ho hb
    rcases List.mem_cons.1 ho with rfl | ho
    · exact ⟨rfl, rfl⟩
    · exact hok.vn o ho hb
  · intro o ho b hb
    rcases List.mem_cons.1 ho with rfl | ho
    · cases hb
    · exact hok.un o ho b hb
  · intro o ho b hb
    rcases List.mem_cons.1 ho with rfl | ho
    · cases hb
    · exact hok.kb o ho b hb
theorem rep_nils_own (G : Gh) {v : Value} (h : Rep G .nils v) : Rep G (.own none 0 0) v := by
  simp only [Rep] at h ⊢; exact ⟨h, trivial, trivial⟩
/-- A temporary's nil slices told as empty ones. -/
theorem aops_softt {l : List Oper} (t : Nat) {y : A} (h : soft (get E t) = y) (next : AOps P N ops l Q ⟨(t, y) :: E, M⟩) : AOps P N ops l Q ⟨E, M⟩ :=
  aops_weaken (st' := ⟨(t, y) :: E, M⟩) (fun K G a w hi => ⟨G, inv_E hi fun s v hv => by
    simp only [get]
    cases hb : Nat.beq t s with
    | true =>
      obtain rfl := Nat.eq_of_beq_eq_true hb
      rw [← h]; exact soft_rep _ _ hv
    | false => exact hv⟩) next
end
end Go.Proofs.Ytnlmfhnjjblhoaa.Ab
/- How large the largest tree is: the walk. No condition. -/
set_option linter.unusedVariables false
set_option linter.unusedSimpArgs false
namespace Go.Proofs.Ytnlmfhnjjblhoaa.Ab
attribute [local irreducible] thenA inBlockA ACode AOps put IntKind.wrap

theorem big_lim {f : Fo} {i : Nat} (h : WF f i) : big f i ≤ 1000000 → Lim f i := by
  induction h with
  | @mk i hi hk hs ih =>
    intro hb
    have hwf : WF f i := .mk hi hk hs
    have hbM : bigM = 1099511627776 := rfl
    have hbe := big_eq hwf
    unfold bigN at hbe
    have h2 : bigA (big f) 0 (altsOf f i) + 1 = big f i := by
      split at hbe
      · omega
      · exact hbe.symm
    have key : ∀ a ∈ altsOf f i, wgt (big f) a.kids ≤ 1000000 := fun a ha => by
      have h1 := (bigA_mem (g := big f) (altsOf f i) 0 a ha).1
      have h3 := bigK_exact (g := big f) a.kids 0 (fun k hm => (big_is (hs k ⟨a, ha, hm⟩)).1) (by omega)
      omega
    refine .mk (fun a ha => ?_) (fun k ⟨a, ha, hm⟩ => ih k ⟨a, ha, hm⟩ ?_)
    · have := wgt_len (g := big f) a.kids (fun k hm => (big_is (hs k ⟨a, ha, hm⟩)).1)
      have := key a ha
      omega
    · have := wgt_mem (g := big f) a.kids (fun k hm => (big_is (hs k ⟨a, ha, hm⟩)).1) k hm
      have := key a ha
      omega
/-- What the reference keeps. -/
structure Kb (f : Fo) (ks : List Int) : Prop where
  len : ks.length = f.nodes.length
  val : ∀ (j : Nat) x, ks[j]? = some x → x = 0 ∨ x = big f j
def BigN (f : Fo) (bs : Nat) (M : List Ob) (i : Nat) : Prop := ∀ ks, Kb f ks →
  ACalls Try.prog 59 [foA f, .own (some bs) f.nodes.length f.nodes.length, .int .i64 i] (⟨some bs, f.nodes.length * 1, ints ks⟩ :: M) (fun r M' => r = .int .i64 (big f i) ∧ ∃ ks', Kb f ks' ∧ M' = ⟨some bs, f.nodes.length * 1, ints ks'⟩ :: M)
theorem bigK_step {g : Nat → Int} {ks : List Int} {r : Nat} {k x : Int} (h : ks[r]? = some k) (hx : x < bigM) : bigK g x (ks.drop r) = bigK g (if 0 ≤ k then x + g k.toNat else x + 1) (ks.drop (r + 1)) := by
  rw [drop_at h]; simp only [bigK]; rw [if_pos hx]
theorem bigK_stop {g : Nat → Int} {ks : List Int} {r : Nat} {x : Int} (hx : ¬ x < bigM) : bigK g x (ks.drop r) = x := by
  cases h : ks.drop r with
  | nil => rfl
  | cons k l => simp only [bigK]; rw [if_neg hx]
theorem bigA_step {g : Nat → Int} {l : List Al} {q : Nat} {a : Al} {m : Int} (h : l[q]? = some a) : bigA g m (l.drop q) = bigA g (if bigK g 0 a.kids > m then bigK g 0 a.kids else m) (l.drop (q + 1)) := by
  rw [drop_at h]; rfl

set_option maxHeartbeats 8000000 in
theorem large_calls {f : Fo} (hf : FoOk f) (bs : Nat) (M : List Ob) {i : Nat} (hwf : WF f i) : BigN f bs M i := by
  obtain ⟨hf1, hf2⟩ := id hf
  induction hwf with
  | @mk i hi hkn hkw ih =>
  intro ks hks
  have hwf : WF f i := .mk hi hkn hkw
  have hbM : bigM = 1099511627776 := rfl
  have hlt : i < ks.length := by rw [hks.len]; exact hi
  obtain ⟨s, hs⟩ : ∃ s, ks[i]? = some s := ⟨ks[i], List.getElem?_eq_getElem hlt⟩
  have hsA : (ints ks)[i * 1]? = some (A.int .i64 s) := by rw [Nat.mul_one]; exact ints_get hs
  obtain ⟨hd1, hd2⟩ := big_is hwf
  refine acalls_of_code 84 Try.func59 rfl rfl rfl ?_
  repeat (first | refine acode_seq ?_ | refine acode_region ?_)
  refine aops_boxf rfl rfl rfl rfl rfl rfl rfl ?_
  repeat (first | refine aops_end ?_ | refine aops_p tok rfl rfl rfl rfl ?_ | refine acode_seq ?_ | refine acode_region ?_)
  refine aops_ixo tok rfl rfl rfl rfl (by omega) (by omega) rfl rfl rfl ?_
  refine aops_ld tok 0 (y := .int .i64 s) rfl rfl rfl rfl (by rw [headed_eq]; exact hsA) rfl rfl rfl ?_
  repeat' (first | refine aops_end ?_ | (refine aops_pd tok rfl rfl rfl rfl ?_ ?_ <;> intro e_) | refine aops_p tok rfl rfl rfl rfl ?_ | refine acode_it rfl ?_ | refine acode_if rfl ?_ | refine acode_seq ?_ | refine acode_region ?_ | refine acode_skip ?_ | refine then_n ?_)
  · refine aops_ixo tok rfl rfl rfl rfl (by omega) (by omega) rfl rfl rfl ?_
    refine aops_ld tok 0 (y := .int .i64 s) rfl rfl rfl rfl (by rw [headed_eq]; exact hsA) rfl rfl rfl ?_
    repeat (first | refine aops_end ?_ | refine aops_p tok rfl rfl rfl rfl ?_)
    have : s = big f i := by rcases hks.val i s hs with h | h; omega; exact h
    subst this
    refine acode_ret ?_
    repeat (refine ret_then ?_)
    exact ⟨_, ⟨rfl, ks, hks, rfl⟩, resOf_tmp rfl⟩
  · obtain ⟨nd, hnd, hndm, hal⟩ := nodes_at hi
    obtain ⟨hal1, hal2⟩ := hf2 nd hndm
    have heq := big_eq hwf
    unfold bigN at heq
    rw [hal] at heq
    have hkd : ∀ a ∈ nd.alts, ∀ k : Nat, (k : Int) ∈ a.kids → Kid f i k := fun a ha k hk => ⟨a, by rw [hal]; exact ha, hk⟩
    refine aops_ix tok (ndC nd) rfl rfl rfl rfl (by omega) (by omega) (by simp [ndC]) (nd_at hnd) rfl rfl rfl ?_
    repeat (first | refine aops_end ?_ | refine aops_p tok rfl rfl rfl rfl ?_ | refine acode_seq ?_ | refine acode_region ?_ | refine acode_block ?_)
    refine acode_loopS (ι := Nat × Int × List Int) (fun p => [(1, .own (some bs) f.nodes.length f.nodes.length), (2, .int .i64 i), (3, .pp (foC f)), (8, .psl nd.alts.length (encs alC nd.alts)), (7, .int .i64 p.2.1), (9, .int .i64 p.1)]) (fun p => ⟨some bs, f.nodes.length * 1, ints p.2.2⟩ :: M) (fun p => nd.alts.length - p.1) (fun p => p.1 ≤ nd.alts.length ∧ Kb f p.2.2 ∧ (0 ≤ p.2.1 ∧ p.2.1 ≤ 2 * bigM) ∧ bigA (big f) p.2.1 (nd.alts.drop p.1) = bigA (big f) 0 nd.alts) (0, 0, ks) ⟨Nat.zero_le _, hks, ⟨show (0 : Int) ≤ 0 from by decide, show (0 : Int) ≤ 2 * bigM from by decide⟩, rfl⟩ ⟨rfl, rfl, rfl, rfl, rfl, rfl, trivial⟩ rfl ?_
    clear hsA hs hlt hks ks
    rintro ⟨q, m, ks⟩ ⟨hq, hks, hm, hgo⟩
    simp only at hq hks hm hgo ⊢
    repeat (first | refine aops_end ?_ | refine aops_p tok rfl rfl rfl rfl ?_ | refine acode_seq ?_ | refine acode_region ?_)
    refine acode_id rfl (fun e2 => ?_) (fun e2 => ?_)
    · have hql : q < nd.alts.length := by omega
      obtain ⟨a, ha⟩ : ∃ a, nd.alts[q]? = some a := ⟨nd.alts[q], List.getElem?_eq_getElem hql⟩
      have ham := List.mem_of_getElem? ha
      have hkl := hal2 a ham
      rw [bigA_step ha] at hgo
      refine acode_skip ?_
      repeat (refine then_n ?_)
      refine acode_seq ?_
      refine acode_block ?_
      refine acode_seq ?_
      refine acode_region ?_
      repeat (refine aops_p tok rfl rfl rfl rfl ?_)
      refine aops_end ?_
      refine acode_seq ?_
      refine acode_joinI (ι := List Int) (fun _ => [(1, .own (some bs) f.nodes.length f.nodes.length), (2, .int .i64 i), (3, .pp (foC f)), (8, .psl nd.alts.length (encs alC nd.alts)), (7, .int .i64 m), (9, .int .i64 q), (10, .int .i64 (bigK (big f) 0 a.kids))]) (fun ks => ⟨some bs, f.nodes.length * 1, ints ks⟩ :: M) (Kb f) ?_ ?_
      · repeat (first | refine aops_end ?_ | refine aops_p tok rfl rfl rfl rfl ?_ | refine acode_seq ?_ | refine acode_region ?_ | refine acode_block ?_)
        refine acode_loopS (ι := Nat × Int × List Int) (fun p => [(1, .own (some bs) f.nodes.length f.nodes.length), (2, .int .i64 i), (3, .pp (foC f)), (8, .psl nd.alts.length (encs alC nd.alts)), (7, .int .i64 m), (9, .int .i64 q), (11, .int .i64 p.1), (10, .int .i64 p.2.1)]) (fun p => ⟨some bs, f.nodes.length * 1, ints p.2.2⟩ :: M) (fun p => a.kids.length - p.1) (fun p => p.1 ≤ a.kids.length ∧ Kb f p.2.2 ∧ (0 ≤ p.2.1 ∧ p.2.1 ≤ 2 * bigM) ∧ bigK (big f) p.2.1 (a.kids.drop p.1) = bigK (big f) 0 a.kids) (0, 0, ks) ⟨Nat.zero_le _, hks, ⟨show (0 : Int) ≤ 0 from by decide, show (0 : Int) ≤ 2 * bigM from by decide⟩, rfl⟩ ⟨rfl, rfl, rfl, rfl, rfl, rfl, rfl, rfl, trivial⟩ rfl ?_
        clear hks ks
        rintro ⟨r, x, ks⟩ ⟨hr, hks, hx, hgo2⟩
        simp only at hr hks hx hgo2 ⊢
        repeat (first | refine aops_p tok rfl rfl rfl rfl ?_ | refine acode_seq ?_ | refine acode_region ?_)
        refine aops_ix tok (alC a) rfl rfl rfl rfl (by omega) (by omega) (by simp [alC]) (al_at ha) rfl rfl rfl ?_
        repeat' (first | refine aops_end ?_ | refine aops_o rfl rfl rfl ?_ | (refine aops_pd tok rfl rfl rfl rfl ?_ ?_ <;> intro e_) | refine aops_p tok rfl rfl rfl rfl ?_ | refine acode_it rfl ?_ | refine acode_if rfl ?_ | refine acode_seq ?_ | refine acode_region ?_ | refine acode_block ?_ | refine acode_skip ?_ | refine then_n ?_)
        · -- on
          have hrl : r < a.kids.length := by omega
          have hxM : x < bigM := by omega
          obtain ⟨k, hk⟩ : ∃ k, a.kids[r]? = some k := ⟨a.kids[r], List.getElem?_eq_getElem hrl⟩
          have hkm := List.mem_of_getElem? hk
          rw [bigK_step hk hxM] at hgo2
          refine aops_ix tok (alC a) rfl rfl rfl rfl (by omega) (by omega) (by simp [alC]) (al_at ha) rfl rfl rfl ?_
          repeat (refine aops_p tok rfl rfl rfl rfl ?_)
          refine aops_ix tok [A.int .i64 k] rfl rfl rfl rfl (by omega) (by omega) (by simp) (ints_at (j := r) (by simpa using hk)) rfl rfl rfl ?_
          repeat' (first | refine aops_end ?_ | refine aops_endb ?_ | refine aops_a tok rfl (by omega) (by omega) rfl rfl rfl ?_ | (refine aops_pd tok rfl rfl rfl rfl ?_ ?_ <;> intro e_) | refine aops_p tok rfl rfl rfl rfl ?_ | refine acode_it rfl ?_ | refine acode_if rfl ?_ | refine acode_region ?_ | refine then_n ?_)
          · rw [if_neg (by omega)] at hgo2
            exact ⟨(r + 1, x + 1, ks), ⟨by simp only; omega, hks, by simp only; omega, hgo2⟩, by simp only; omega, ⟨rfl, rfl, rfl, rfl, rfl, rfl, rfl, rfl, trivial⟩, rfl⟩
          · obtain ⟨k', rfl⟩ : ∃ k' : Nat, k = k' := ⟨k.toNat, by omega⟩
            rw [if_pos (by omega), Int.toNat_natCast] at hgo2
            have hkk := hkd a ham k' hkm
            obtain ⟨hk1, hk2⟩ := big_is (hkw k' hkk)
            obtain ⟨dk, hdk1, hdk2⟩ := decP (Kb f) hks
            refine acode_drawP [] 12 [0, 1, 2, 3, 4, 5, 6, 7, 8, 9, 10, 11] [11] mixed (by kernel_rfl) (by kernel_rfl) rfl ?_
            repeat (refine seqO_p tok rfl rfl rfl rfl rfl ?_)
            refine seqO_ix tok (alC a) rfl rfl rfl rfl rfl (by omega) (by omega) (by simp [alC]) (al_at ha) rfl rfl rfl ?_
            repeat (refine seqO_p tok rfl rfl rfl rfl rfl ?_)
            refine seqO_ix tok [A.int .i64 k'] rfl rfl rfl rfl rfl (by omega) (by omega) (by simp) (ints_at (j := r) (by simpa using hk)) rfl rfl rfl ?_
            repeat (refine seqO_p tok rfl rfl rfl rfl rfl ?_)
            refine seqO_callw (fun _ => .int .i64 (big f k')) (fun z => ⟨some bs, f.nodes.length * 1, ints (dk z)⟩ :: M) rfl Try.func59 rfl rfl rfl rfl ((ih k' hkk ks hks).mono ?_) (by simp) rfl rfl rfl fun z => ?_
            · rintro r M' ⟨rfl, ks', hks', rfl⟩
              obtain ⟨z, hz⟩ := hdk2 ks' hks'
              exact ⟨z, rfl, by rw [hz]⟩
            refine SeqO.done ?_
            repeat (first | refine aops_end ?_ | refine aops_endb ?_ | refine aops_a tok rfl (by omega) (by omega) rfl rfl rfl ?_ | refine aops_p tok rfl rfl rfl rfl ?_ | refine acode_region ?_ | refine then_n ?_)
            exact ⟨(r + 1, x + big f k', dk z), ⟨by simp only; omega, hdk1 z, by simp only; omega, hgo2⟩, by simp only; omega, ⟨rfl, rfl, rfl, rfl, rfl, rfl, rfl, rfl, trivial⟩, rfl⟩
        · rw [bigK_stop (by omega)] at hgo2
          subst hgo2
          refine acode_exit ?_
          repeat (first | refine exit_then ?_ | refine exit_here ?_ | refine then_n ?_)
          exact ⟨ks, hks, ⟨rfl, rfl, rfl, rfl, rfl, rfl, rfl, trivial⟩, rfl⟩
        · have hge : r = a.kids.length := by omega
          subst hge
          rw [List.drop_length] at hgo2
          have hgo2 : x = bigK (big f) 0 a.kids := hgo2
          subst hgo2
          refine acode_exit ?_
          repeat (first | refine exit_then ?_ | refine exit_here ?_ | refine then_n ?_)
          exact ⟨ks, hks, ⟨rfl, rfl, rfl, rfl, rfl, rfl, rfl, trivial⟩, rfl⟩
      · clear hks ks
        intro ks hks
        have hb := bigK_is (g := big f) a.kids 0 ⟨by decide, by decide⟩ (fun k hk => by have := big_is (hkw k (hkd a ham k hk)); exact ⟨by omega, this.2⟩)
        generalize bigK (big f) 0 a.kids = x at *
        repeat' (first | refine aops_end ?_ | refine aops_endb ?_ | refine aops_a tok rfl (by omega) (by omega) rfl rfl rfl ?_ | (refine aops_pd tok rfl rfl rfl rfl ?_ ?_ <;> intro e_) | refine aops_p tok rfl rfl rfl rfl ?_ | refine acode_it rfl ?_ | refine acode_if rfl ?_ | refine acode_seq ?_ | refine acode_region ?_ | refine acode_skip ?_ | refine then_n ?_ | refine block_n ?_)
        · rw [if_pos (by omega)] at hgo
          exact ⟨(q + 1, x, ks), ⟨by simp only; omega, hks, hb, hgo⟩, by simp only; omega, ⟨rfl, rfl, rfl, rfl, rfl, rfl, trivial⟩, rfl⟩
        · rw [if_neg (by omega)] at hgo
          exact ⟨(q + 1, m, ks), ⟨by simp only; omega, hks, hm, hgo⟩, by simp only; omega, ⟨rfl, rfl, rfl, rfl, rfl, rfl, trivial⟩, rfl⟩
    · have hge : q = nd.alts.length := by omega
      subst hge
      rw [List.drop_length] at hgo
      have hgo : m = bigA (big f) 0 nd.alts := hgo
      rw [← hgo] at heq
      have hlt : i < ks.length := by rw [hks.len]; exact hi
      have fin : ∀ v, v = big f i → Kb f (ks.set i v) := fun v hv => ⟨by simp [hks.len], fun j x hx => by
        rw [List.getElem?_set] at hx
        by_cases h : i = j
        · subst h; rw [if_pos rfl, if_pos hlt] at hx; rw [← hv]; exact .inr (Option.some.inj hx).symm
        · rw [if_neg h] at hx; exact hks.val j x hx⟩
      refine acode_exit ?_
      repeat (first | refine exit_then ?_ | refine exit_here ?_ | refine then_n ?_)
      repeat' (first | refine aops_end ?_ | refine aops_a tok rfl (by omega) (by omega) rfl rfl rfl ?_ | (refine aops_pd tok rfl rfl rfl rfl ?_ ?_ <;> intro e_) | refine aops_p tok rfl rfl rfl rfl ?_ | refine acode_it rfl ?_ | refine acode_if rfl ?_ | refine acode_seq ?_ | refine acode_region ?_ | refine acode_skip ?_ | refine then_n ?_)
      · rw [if_pos (by omega)] at heq
        refine aops_ixo tok rfl rfl rfl rfl (by omega) (by omega) rfl rfl rfl ?_
        refine aops_sto tok (ints (ks.set i (1099511627775 + 1))) rfl rfl rfl rfl rfl (by rw [ints_len]; show i * 1 + 1 ≤ _; omega) (ints_set1 hlt _) rfl rfl ?_
        repeat (first | refine aops_end ?_ | refine aops_a tok rfl (by omega) (by omega) rfl rfl rfl ?_ | refine aops_p tok rfl rfl rfl rfl ?_ | refine acode_seq ?_ | refine acode_region ?_)
        refine acode_ret ?_
        skip
        exact ⟨.int .i64 (1099511627775 + 1), ⟨by rw [heq]; rfl, _, fin _ (by rw [heq]; rfl), rfl⟩, resOf_tmp rfl⟩
      · rw [if_neg (by omega)] at heq
        refine aops_ixo tok rfl rfl rfl rfl (by omega) (by omega) rfl rfl rfl ?_
        refine aops_sto tok (ints (ks.set i (m + 1))) rfl rfl rfl rfl rfl (by rw [ints_len]; show i * 1 + 1 ≤ _; omega) (ints_set1 hlt _) rfl rfl ?_
        repeat (first | refine aops_end ?_ | refine aops_a tok rfl (by omega) (by omega) rfl rfl rfl ?_ | refine aops_p tok rfl rfl rfl rfl ?_ | refine acode_seq ?_ | refine acode_region ?_)
        refine acode_ret ?_
        skip
        exact ⟨.int .i64 (m + 1), ⟨by rw [heq], _, fin _ heq.symm, rfl⟩, resOf_tmp rfl⟩

theorem largest_calls {f : Fo} (hf : FoOk f) (M : List Ob) : ACalls Try.prog 25 [foA f] M (fun r M' => (FForm f ∧ r = .int .i64 (big f f.root.toNat) ∨ ¬ FForm f ∧ r = .int .i64 0) ∧ M' = M) := by
  obtain ⟨hf1, hf2⟩ := id hf
  refine acalls_of_code 14 Try.func25 rfl rfl rfl ?_
  repeat (first | refine acode_seq ?_ | refine acode_region ?_)
  refine aops_boxf rfl rfl rfl rfl rfl rfl rfl ?_
  repeat (first | refine aops_end ?_ | refine aops_p tok rfl rfl rfl rfl ?_ | refine acode_seq ?_ | refine acode_region ?_)
  refine aops_call Try.func18 rfl rfl rfl rfl (rfform_calls hf M) rfl rfl ?_
  rintro x M' ⟨hx, hM⟩
  obtain rfl : M = M' := hM.symm
  rcases hx with ⟨h, rfl⟩ | ⟨h, rfl⟩
  · obtain ⟨⟨h0, h1⟩, hw⟩ := id h
    obtain ⟨r, hr⟩ : ∃ r : Nat, f.root = r := ⟨f.root.toNat, by omega⟩
    have hwr : WF f r := hw r (by omega)
    repeat' (first | refine aops_put rfl ?_ | refine aops_end ?_ | refine aops_p tok rfl rfl rfl rfl ?_ | refine acode_if rfl ?_ | refine acode_seq ?_ | refine acode_skip ?_ | refine then_n ?_)
    refine acode_drawP [] 7 [0, 1, 2, 3, 5, 6, 4] [6] mixed (by kernel_rfl) (by kernel_rfl) rfl ?_
    repeat (refine seqO_p tok rfl rfl rfl rfl rfl ?_)
    refine seqO_mk tok f.nodes.length rfl rfl rfl rfl rfl rfl rfl (by show _ * 8 ≤ _; omega) (by omega) (by simp) rfl rfl rfl fun bs => ?_
    refine SeqO.done ?_
    refine aops_M (M' := ⟨some bs, f.nodes.length * 1, ints (List.replicate f.nodes.length 0)⟩ :: M) (by rw [← ints_zeros]; rfl) ?_
    have hdc := large_calls hf bs M hwr (List.replicate f.nodes.length 0) ⟨by simp, fun j x hx => .inl (count_zeros _ _ _ hx)⟩
    rw [← hr] at hdc
    refine aops_call Try.func59 rfl rfl rfl rfl hdc rfl rfl ?_
    rintro x M' ⟨rfl, ks2, hks2, rfl⟩
    repeat (first | refine aops_put rfl ?_ | refine aops_end ?_ | refine aops_p tok rfl rfl rfl rfl ?_)
    refine acode_drop0 (acode_ret ?_)
    skip
    exact ⟨.int .i64 (big f r), ⟨.inl ⟨h, by rw [hr, Int.toNat_natCast]⟩, rfl⟩, resOf_tmp rfl⟩
  · repeat' (first | refine aops_put rfl ?_ | refine aops_end ?_ | refine aops_p tok rfl rfl rfl rfl ?_ | refine acode_it rfl ?_ | refine acode_seq ?_ | refine acode_region ?_)
    refine acode_ret ?_
    repeat (refine ret_then ?_)
    exact ⟨_, ⟨.inr ⟨h, rfl⟩, rfl⟩, resOf_tmp rfl⟩
end Go.Proofs.Ytnlmfhnjjblhoaa.Ab
/- Chapter 21: the n-th tree: the walk. No condition. -/
set_option linter.unusedVariables false
set_option linter.unusedSimpArgs false
namespace Go.Proofs.Ytnlmfhnjjblhoaa.Ab
attribute [local irreducible] thenA inBlockA ACode AOps put IntKind.wrap

def zeroT : List A := [.int .i64 0, .int .i64 0, .nils]
theorem zerosA_snoc (z : List A) (n : Nat) : zerosA z (n + 1) = zerosA z n ++ z := by
  unfold zerosA; rw [List.replicate_succ', List.flatten_append]; simp
theorem zerosA_len (z : List A) (n : Nat) : (zerosA z n).length = n * z.length := by
  induction n with
  | zero => simp [zerosA]
  | succ n ih => rw [zerosA_snoc, List.length_append, ih, Nat.succ_mul]
theorem encs_cons {α : Type} (e : α → List A) (x : α) (l : List α) : encs e (x :: l) = e x ++ encs e l := by simp [encs]
theorem plen_drop {α : Type} {ls : List (List α)} {j : Nat} {l : List α} (h : ls[j]? = some l) : plen (ls.drop j) = l.length * plen (ls.drop (j + 1)) := by
  rw [drop_at h]; rfl
theorem plen_pos {α : Type} : ∀ {ls : List (List α)} {l : List α}, 0 < plen ls → l ∈ ls → 0 < l.length ∧ l.length ≤ plen ls
  | [], _, _, h => by cases h
  | l0 :: ls, l, hp, h => by
    simp only [plen] at hp ⊢
    have h1 : 0 < l0.length := Nat.pos_of_mul_pos_right hp
    have h2 : 0 < plen ls := Nat.pos_of_mul_pos_left hp
    rcases List.mem_cons.1 h with rfl | h
    · exact ⟨h1, Nat.le_mul_of_pos_right _ h2⟩
    · obtain ⟨a, b⟩ := plen_pos h2 h
      exact ⟨a, Nat.le_trans b (Nat.le_mul_of_pos_left _ h1)⟩
theorem flat_drop {α β : Type} {g : α → List β} {l : List α} {q : Nat} {x : α} (h : l[q]? = some x) : (l.drop q).flatMap g = g x ++ (l.drop (q + 1)).flatMap g := by
  rw [drop_at h, List.flatMap_cons]
theorem trees_exact {f : Fo} {k : Nat} (h : WF f k) (hb : ((trL f k).length : Int) < great) : trees f k = (trL f k).length := by
  rw [trees_sat h, sat_small (by omega)]
/-- What is left of a number behind some digits. -/
def dig {α : Type} (ls : List (List α)) (n j : Nat) : Nat := n / plen (ls.drop j)
theorem dig_all {α : Type} {ls : List (List α)} {n m : Nat} (h : ls.length = m) : dig ls n m = n := by subst h; simp [dig, plen]
theorem dig_le {α : Type} (ls : List (List α)) (n j : Nat) : dig ls n j ≤ n := Nat.div_le_self _ _
theorem dig_step {α : Type} {ls : List (List α)} {n j : Nat} {l : List α} (h : ls[j]? = some l) : dig ls n j = dig ls n (j + 1) / l.length := by
  unfold dig; rw [plen_drop h, Nat.div_div_eq_div_mul, Nat.mul_comm]
/-- The n-th tree of a node is told. -/
def NodeC (f : Fo) (M : List Ob) (i : Nat) : Prop := ∀ n : Nat, n < (trL f i).length → ACalls Try.prog 63 [.pp (liC f), .int .i64 i, .int .i64 n] M (fun r M' => ∃ t, (trL f i)[n]? = some t ∧ r = trA t ∧ M' = M)

set_option maxHeartbeats 4000000 in
theorem ukids_calls {f : Fo} (hf : FoOk f) {a : Al} (hal : a.kids.length ≤ 1000000) (hrg : ∀ k ∈ a.kids, rng k) {M : List Ob} (hk : ∀ k : Nat, (k : Int) ∈ a.kids → WF f k ∧ ∀ M, ((trL f k).length : Int) < great → NodeC f M k) {n : Nat} (hn : n < plen (kidsL (trL f) a.kids)) (hb : (plen (kidsL (trL f) a.kids) : Int) < great) :
    ACalls Try.prog 80 [.pp (liC f), .agg (alC a), .int .i64 n] M (fun r M' => ∃ out, (prodL (kidsL (trL f) a.kids))[n]? = some out ∧ r = .psl out.length (encs trC out) ∧ M' = M) := by
  obtain ⟨hf1, hf2⟩ := id hf
  obtain ⟨out, ho1, ho2, ho3⟩ := prodL_at (kidsL (trL f) a.kids) n hn
  have hLl : (kidsL (trL f) a.kids).length = a.kids.length := by simp [kidsL]
  have hgr : great = 4611686018427387903 := rfl
  have hpos : 0 < plen (kidsL (trL f) a.kids) := by omega
  have hLj : ∀ (j : Nat) (k : Int), a.kids[j]? = some k → (kidsL (trL f) a.kids)[j]? = some (if 0 ≤ k then trL f k.toNat else [leafT k]) := fun j k h => by simp [kidsL, h]
  have hmem : ∀ (j : Nat) l, (kidsL (trL f) a.kids)[j]? = some l → 0 < l.length ∧ l.length ≤ plen (kidsL (trL f) a.kids) := fun j l h => plen_pos hpos (List.mem_of_getElem? h)
  generalize kidsL (trL f) a.kids = L at *
  have hol : out.length = a.kids.length := by omega
  refine acalls_of_code 58 Try.func80 rfl rfl rfl ?_
  repeat (first | refine acode_seq ?_ | refine acode_region ?_)
  refine aops_boxf rfl rfl rfl rfl rfl rfl rfl ?_
  repeat (first | refine aops_end ?_ | refine aops_p tok rfl rfl rfl rfl ?_ | refine acode_seq ?_ | refine acode_region ?_)
  refine aops_mk tok a.kids.length rfl rfl rfl rfl rfl rfl (by show _ * 40 ≤ _; omega) (by omega) rfl rfl rfl fun b => ?_
  repeat (first | refine aops_end ?_ | refine aops_a tok rfl (by omega) (by omega) rfl rfl rfl ?_ | refine aops_p tok rfl rfl rfl rfl ?_ | refine acode_seq ?_ | refine acode_region ?_ | refine acode_block ?_)
  refine acode_loopS (ι := Nat) (fun j => [(0, .pp (liC f)), (4, .pp (alC a)), (7, .own (some b) a.kids.length a.kids.length), (8, .int .i64 ((j : Int) - 1)), (2, .int .i64 (dig L n j : Nat))]) (fun j => ⟨some b, a.kids.length * 3, zerosA zeroT j ++ encs trC (out.drop j)⟩ :: M) (fun j => j) (fun j => j ≤ a.kids.length) a.kids.length (Nat.le_refl _) ⟨rfl, rfl, rfl, rfl, by rw [dig_all hLl]; rfl, trivial⟩ (by rw [← hol, List.drop_length]; simp [encs]; rfl) ?_
  intro j hj
  repeat (first | refine aops_end ?_ | refine aops_p tok rfl rfl rfl rfl ?_ | refine acode_seq ?_ | refine acode_region ?_)
  refine acode_id rfl (fun e => ?_) (fun e => ?_)
  · obtain ⟨i, rfl⟩ : ∃ i, j = i + 1 := ⟨j - 1, by omega⟩
    have hi : i < a.kids.length := by omega
    have hsub : ((i + 1 : Nat) : Int) - 1 = i := by omega
    rw [hsub]
    obtain ⟨k, hki⟩ : ∃ k, a.kids[i]? = some k := ⟨a.kids[i], List.getElem?_eq_getElem hi⟩
    have hkm := List.mem_of_getElem? hki
    have hkr := hrg k hkm
    have hLi := hLj i k hki
    obtain ⟨t, ht1, ht2⟩ := ho3 i _ hLi
    have hpd := dig_step (n := n) hLi
    have ht2 : (if 0 ≤ k then trL f k.toNat else [leafT k])[dig L n (i + 1) % (if 0 ≤ k then trL f k.toNat else [leafT k]).length]? = some t := ht2
    obtain ⟨hl0, hl1⟩ := hmem i _ hLi
    have hod : out.drop i = t :: out.drop (i + 1) := drop_at ht1
    have hle := dig_le L n (i + 1)
    have hcs : ∀ y : List A, y.length = 3 → (zerosA zeroT (i + 1) ++ encs trC (out.drop (i + 1))).take (i * 3) ++ (y ++ (zerosA zeroT (i + 1) ++ encs trC (out.drop (i + 1))).drop (i * 3 + 3)) = zerosA zeroT i ++ (y ++ encs trC (out.drop (i + 1))) := by
      intro y hy
      have hz : (zerosA zeroT i).length = i * 3 := zerosA_len _ _
      rw [zerosA_snoc, List.append_assoc, ← hz, List.take_left, ← List.drop_drop, List.drop_left, show (3 : Nat) = zeroT.length from rfl, List.drop_left]
    have hlen : (zerosA zeroT (i + 1) ++ encs trC (out.drop (i + 1))).length = a.kids.length * 3 := by
      rw [List.length_append, zerosA_len, encs_len trC_len, List.length_drop, hol]
      show (i + 1) * 3 + (a.kids.length - (i + 1)) * 3 = _
      omega
    repeat (first | refine aops_p tok rfl rfl rfl rfl ?_ | refine acode_seq ?_ | refine acode_region ?_ | refine acode_block ?_ | refine acode_skip ?_ | refine then_n ?_)
    refine aops_ix tok [A.int .i64 k] rfl rfl rfl rfl (by omega) (by omega) (by simp) (ints_at (j := i) (by simpa using hki)) rfl rfl rfl ?_
    repeat' (first | refine aops_end ?_ | (refine aops_pd tok rfl rfl rfl rfl ?_ ?_ <;> intro e_) | refine aops_p tok rfl rfl rfl rfl ?_ | refine acode_it rfl ?_ | refine acode_if rfl ?_ | refine acode_seq ?_ | refine acode_region ?_ | refine acode_skip ?_ | refine then_n ?_)
    · -- a token
      rw [if_neg (by omega)] at ht2 hpd hLi
      have htl : t = leafT k := by simpa [Nat.mod_one] using ht2.symm
      subst htl
      refine aops_callx Try.func83 rfl rfl rfl rfl (leaf_calls hkr _) rfl rfl rfl ?_
      skip
      refine aops_ixo tok rfl rfl rfl rfl (by omega) (by omega) rfl rfl rfl ?_
      refine aops_stk tok 0 (zerosA zeroT i ++ encs trC (out.drop i)) (⟨some b, a.kids.length * 3, zerosA zeroT i ++ encs trC (out.drop i)⟩ :: M) rfl rfl rfl rfl rfl rfl (by rw [hlen]; show i * 3 + 3 ≤ _; omega) (by rw [hod, encs_cons, trC_eq]; exact hcs _ rfl) rfl rfl rfl ?_
      refine aops_end ?_
      refine acode_exit ?_
      repeat (first | refine exit_then ?_ | refine exit_here ?_ | refine then_n ?_)
      repeat (first | refine aops_end ?_ | refine aops_a tok rfl (by omega) (by omega) rfl rfl rfl ?_ | refine aops_p tok rfl rfl rfl rfl ?_ | refine acode_region ?_)
      have hpd : dig L n i = dig L n (i + 1) := by rw [hpd]; simp
      exact ⟨i, by omega, by omega, ⟨rfl, rfl, rfl, rfl, by rw [hpd]; rfl, trivial⟩, rfl⟩
    · -- a node
      obtain ⟨k', rfl⟩ : ∃ k' : Nat, k = k' := ⟨k.toNat, by omega⟩
      rw [if_pos (by omega), Int.toNat_natCast] at ht2 hpd hLi hl0 hl1
      obtain ⟨hwk, hck⟩ := hk k' hkm
      have hkb : ((trL f k').length : Int) < great := by omega
      have hte := trees_exact hwk hkb
      have hkn := hwk.lt
      have hget := range_get (trees f) hkn
      rw [hte] at hget
      skip
      refine aops_ix tok [A.int .i64 ((trL f k').length : Nat)] rfl rfl rfl rfl (by omega) (by omega) (by simp) (ints_at (j := k') hget) rfl rfl rfl ?_
      repeat (refine aops_p tok rfl rfl rfl rfl ?_)
      refine aops_rem rfl rfl rfl (by omega) (by omega) (by omega) rfl rfl rfl ?_
      rw [← Int.natCast_emod]
      refine aops_call Try.func63 rfl rfl rfl rfl (hck _ hkb _ (Nat.mod_lt _ hl0)) rfl rfl ?_
      rintro x M' ⟨t', h1, rfl, rfl⟩
      obtain rfl : t = t' := Option.some.inj (ht2.symm.trans h1)
      repeat (refine aops_put rfl ?_)
      refine aops_ixo tok rfl rfl rfl rfl (by omega) (by omega) rfl rfl rfl ?_
      refine aops_stk tok 0 (zerosA zeroT i ++ encs trC (out.drop i)) (⟨some b, a.kids.length * 3, zerosA zeroT i ++ encs trC (out.drop i)⟩ :: M) rfl rfl rfl rfl rfl rfl (by rw [hlen]; show i * 3 + 3 ≤ _; omega) (by rw [hod, encs_cons, trC_eq]; exact hcs _ rfl) rfl rfl rfl ?_
      repeat (first | refine aops_end ?_ | refine aops_p tok rfl rfl rfl rfl ?_ | refine acode_region ?_)
      refine aops_ix tok [A.int .i64 ((trL f k').length : Nat)] rfl rfl rfl rfl (by omega) (by omega) (by simp) (ints_at (j := k') hget) rfl rfl rfl ?_
      repeat (refine aops_p tok rfl rfl rfl rfl ?_)
      refine aops_quo rfl rfl rfl (by omega) (by omega) (by omega) rfl rfl rfl ?_
      rw [← Int.natCast_ediv]
      repeat (first | refine aops_end ?_ | refine aops_endb ?_ | refine aops_a tok rfl (by omega) (by omega) rfl rfl rfl ?_ | refine aops_p tok rfl rfl rfl rfl ?_ | refine acode_region ?_ | refine then_n ?_)
      exact ⟨i, by omega, by omega, ⟨rfl, rfl, rfl, rfl, by rw [hpd]; rfl, trivial⟩, rfl⟩
  · have hge : j = 0 := by omega
    subst hge
    refine acode_exit ?_
    repeat (first | refine exit_then ?_ | refine exit_here ?_ | refine then_n ?_)
    refine acode_pub0 7 3 (n := out.length) (by rw [hol]; rfl) rfl (by show (_ ++ encs trC out).length = _; rw [List.length_append, encs_len trC_len, zerosA_len]; simp) rfl ?_
    repeat (first | refine aops_end ?_ | refine aops_p tok rfl rfl rfl rfl ?_ | refine acode_seq ?_ | refine acode_region ?_)
    refine acode_ret ?_
    skip
    exact ⟨_, ⟨out, ho1, rfl, rfl⟩, resOf_tmp rfl⟩
end Go.Proofs.Ytnlmfhnjjblhoaa.Ab
/- Chapter 21: the n-th tree of a node, All and Nth: the walk. No condition. -/
set_option linter.unusedVariables false
set_option linter.unusedSimpArgs false
namespace Go.Proofs.Ytnlmfhnjjblhoaa.Ab
attribute [local irreducible] thenA inBlockA ACode AOps put IntKind.wrap

theorem valF_range {T : Nat → Int} {n k : Nat} (h : k < n) : valF ((List.range n).map T) k = T k := by
  rw [valF, List.getD_eq_getElem?_getD, range_get T h]; rfl

set_option maxHeartbeats 4000000 in
theorem unode_calls {f : Fo} (hf : FoOk f) (hrg : FoRng f) (hall : ∀ i, i < f.nodes.length → WF f i) {i : Nat} (hwf : WF f i) : Lim f i → ∀ M, ((trL f i).length : Int) < great → NodeC f M i := by
  induction hwf with
  | @mk i hi hkn hkw ih =>
  intro hlim M hb n hn
  have hwf : WF f i := .mk hi hkn hkw
  obtain ⟨hf1, hf2⟩ := id hf
  obtain ⟨nd, hnd, hndm, hal⟩ := nodes_at hi
  obtain ⟨hal1, hal2⟩ := hf2 nd hndm
  have hgr : great = 4611686018427387903 := rfl
  have hT := trL_eq hwf
  unfold nodeL at hT
  rw [hal] at hT
  generalize hti : trL f i = ti at *
  refine acalls_of_code 45 Try.func63 rfl rfl rfl ?_
  repeat (first | refine acode_seq ?_ | refine acode_region ?_)
  refine aops_alloc tok rfl rfl rfl rfl rfl rfl fun br => ?_
  repeat (first | refine aops_end ?_ | refine aops_p tok rfl rfl rfl rfl ?_ | refine acode_seq ?_ | refine acode_region ?_)
  refine aops_ix tok (ndC nd) rfl rfl rfl rfl (by omega) (by omega) (by simp [ndC]) (nd_at hnd) rfl rfl rfl ?_
  repeat (first | refine aops_end ?_ | refine aops_p tok rfl rfl rfl rfl ?_ | refine acode_block ?_)
  refine acode_loopS (ι := Nat × Nat) (fun q => [(0, .pp (liC f)), (6, .ref br 0), (18, .psl nd.alts.length (encs alC nd.alts)), (19, .int .i64 nd.alts.length), (20, .int .i64 q.1), (2, .int .i64 q.2)]) (fun _ => ⟨some br, 3, [.int .i64 0, .int .i64 0, .nils]⟩ :: M) (fun q => nd.alts.length - q.1) (fun q => q.1 ≤ nd.alts.length ∧ ti[n]? = ((nd.alts.drop q.1).flatMap (altL (trL f)))[q.2]? ∧ q.2 < ((nd.alts.drop q.1).flatMap (altL (trL f))).length ∧ ((nd.alts.drop q.1).flatMap (altL (trL f))).length ≤ ti.length) (0, n) ⟨Nat.zero_le _, by rw [List.drop_zero, ← hT], by rw [List.drop_zero, ← hT]; exact hn, by rw [List.drop_zero, ← hT]; exact Nat.le_refl _⟩ ⟨rfl, rfl, rfl, rfl, rfl, rfl, trivial⟩ rfl ?_
  rintro ⟨q, m⟩ ⟨hq, hat, hm, hmt⟩
  simp only at hq hat hm hmt ⊢
  repeat (first | refine aops_end ?_ | refine aops_p tok rfl rfl rfl rfl ?_ | refine acode_seq ?_ | refine acode_region ?_)
  refine acode_id rfl (fun e => ?_) (fun e => ?_)
  · have hql : q < nd.alts.length := by omega
    obtain ⟨a, ha⟩ : ∃ a, nd.alts[q]? = some a := ⟨nd.alts[q], List.getElem?_eq_getElem hql⟩
    have ham := List.mem_of_getElem? ha
    have hmi : a ∈ altsOf f i := by rw [hal]; exact ham
    have hkl := hal2 a ham
    have hkd : ∀ k : Nat, (k : Int) ∈ a.kids → Kid f i k := fun k hk => ⟨a, hmi, hk⟩
    rw [flat_drop ha] at hat hm hmt
    rw [List.length_append] at hm hmt
    have hce : altF (valF ((List.range f.nodes.length).map (trees f))) 1 a.kids = (altL (trL f) a).length := by
      rw [altF_congr (h := trees f) _ _ fun k hk => valF_range (hkw k (hkd k hk)).lt, altF_len (g := trL f) fun k hk => trees_sat (hkw k (hkd k hk)), sat_small (by omega)]
    have hvl : ((List.range f.nodes.length).map (trees f)).length = f.nodes.length := by simp
    have hvi : ∀ x ∈ (List.range f.nodes.length).map (trees f), isN x := fun x hx => by
      obtain ⟨k, hk, rfl⟩ := List.mem_map.1 hx
      exact trees_is (hall k (by simpa using hk))
    have hcall := alt_calls (a := a) hvl hvi (fun k hk => by rw [hvl]; exact (hkw k (hkd k hk)).lt) (by omega) (by rw [hvl]; omega)
    rw [hce] at hcall
    repeat (first | refine acode_seq ?_ | refine acode_region ?_ | refine acode_block ?_ | refine acode_skip ?_ | refine then_n ?_)
    refine aops_ix tok (alC a) rfl rfl rfl rfl (by omega) (by omega) (by simp [alC]) (al_at ha) rfl rfl rfl ?_
    repeat (refine aops_p tok rfl rfl rfl rfl ?_)
    refine aops_alloc tok rfl rfl rfl rfl rfl rfl fun ba => ?_
    repeat (first | refine aops_end ?_ | refine aops_stn tok rfl rfl rfl rfl rfl rfl rfl rfl rfl ?_ | refine acode_seq ?_)
    refine acode_pubref0 8 rfl ?_
    refine acode_drawT 7 mixed (by kernel_rfl) (by kernel_rfl) ?_
    repeat (refine seqT_p tok rfl rfl rfl rfl ?_)
    refine seqT_call _ Try.func66 rfl rfl rfl rfl (hcall _) rfl rfl rfl ?_
    repeat (refine seqT_p tok rfl rfl rfl rfl ?_)
    refine SeqT.done ?_
    repeat' (first | refine aops_end ?_ | refine aops_endb ?_ | refine aops_a tok rfl (by omega) (by omega) rfl rfl rfl ?_ | (refine aops_pd tok rfl rfl rfl rfl ?_ ?_ <;> intro e_) | refine aops_p tok rfl rfl rfl rfl ?_ | refine acode_it rfl ?_ | refine acode_if rfl ?_ | refine acode_seq ?_ | refine acode_region ?_ | refine acode_skip ?_ | refine then_n ?_)
    · have hma : m < (altL (trL f) a).length := by omega
      rw [List.getElem?_append_left hma] at hat
      have hmp := hma
      rw [altL_len] at hmp
      have hpb : (plen (kidsL (trL f) a.kids) : Int) < great := by rw [← altL_len]; omega
      obtain ⟨out, ho, _⟩ := prodL_at (kidsL (trL f) a.kids) m hmp
      have hres : (altL (trL f) a)[m]? = some (.mk a.rule 0 out) := by simp [altL, ho]
      have hkc := (ukids_calls hf (hlim.len hmi) (hrg nd hndm a ham) (M := ⟨some br, 3, [.int .i64 0, .int .i64 0, .nils]⟩ :: M) (fun k hk => ⟨hkw k (hkd k hk), ih k (hkd k hk) (hlim.kid (hkd k hk))⟩) hmp hpb).mono (R' := fun r M' => r = .psl out.length (encs trC out) ∧ M' = ⟨some br, 3, [.int .i64 0, .int .i64 0, .nils]⟩ :: M) (by
        rintro r M' ⟨out', h1, h2, h3⟩
        rw [ho] at h1; cases h1
        exact ⟨h2, h3⟩)
      refine acode_drawT 7 mixed (by kernel_rfl) (by kernel_rfl) ?_
      repeat (refine seqT_p tok rfl rfl rfl rfl ?_)
      refine seqT_call _ Try.func80 rfl rfl rfl rfl hkc rfl rfl rfl ?_
      repeat (refine seqT_p tok rfl rfl rfl rfl ?_)
      refine SeqT.done ?_
      refine aops_stn tok rfl rfl rfl rfl rfl rfl rfl rfl rfl ?_
      refine aops_end ?_
      refine acode_pubref0 6 rfl ?_
      refine acode_ret ?_
      repeat (first | refine ret_then ?_ | refine ret_block ?_)
      exact ⟨_, ⟨_, hat.trans hres, rfl, rfl⟩, resOf_pp tok rfl rfl rfl⟩
    · rw [List.getElem?_append_right (by omega)] at hat
      have e3 : ((m - (altL (trL f) a).length : Nat) : Int) = (m : Int) - (altL (trL f) a).length := by omega
      skip
      exact ⟨(q + 1, m - (altL (trL f) a).length), ⟨by simp; omega, hat, by simp only; omega, by simp only; omega⟩, by simp; omega, ⟨rfl, rfl, rfl, rfl, rfl, by rw [e3]; rfl, trivial⟩, rfl⟩
  · have hge : q = nd.alts.length := by omega
    subst hge
    rw [List.drop_length] at hm
    simp at hm
end Go.Proofs.Ytnlmfhnjjblhoaa.Ab
/- Chapter 21: begin, All and Nth: the walk. No condition. -/
set_option linter.unusedVariables false
set_option linter.unusedSimpArgs false
namespace Go.Proofs.Ytnlmfhnjjblhoaa.Ab
attribute [local irreducible] thenA inBlockA ACode AOps put IntKind.wrap

set_option maxHeartbeats 2000000 in
theorem ubegin_calls {f : Fo} (hf : FoOk f) (M : List Ob) : ACalls Try.prog 62 [foA f] M (fun r M' => (FForm f ∧ r = .tup [.pp (liC f), .bool true] ∨ ¬ FForm f ∧ r = .tup [.nilp, .bool false]) ∧ M' = M) := by
  obtain ⟨hf1, hf2⟩ := id hf
  refine acalls_of_code 19 Try.func62 rfl rfl rfl ?_
  repeat (first | refine acode_seq ?_ | refine acode_region ?_)
  refine aops_boxf rfl rfl rfl rfl rfl rfl rfl ?_
  repeat (first | refine aops_end ?_ | refine aops_p tok rfl rfl rfl rfl ?_ | refine acode_seq ?_ | refine acode_region ?_)
  refine aops_call Try.func37 rfl rfl rfl rfl (order_calls hf M) rfl rfl ?_
  rintro x M' ⟨hM, hx⟩
  obtain rfl : M = M' := hM.symm
  rcases hx with ⟨h, l, rfl, ht, hall⟩ | ⟨h, rfl⟩
  · repeat' (first | refine aops_put rfl ?_ | refine aops_end ?_ | refine aops_p tok rfl rfl rfl rfl ?_ | refine acode_if rfl ?_ | refine acode_seq ?_ | refine acode_region ?_ | refine acode_skip ?_ | refine then_n ?_)
    refine acode_drawP [] 6 [0, 1, 2, 3, 4, 5] [5] mixed (by kernel_rfl) (by kernel_rfl) rfl ?_
    repeat (refine seqO_p tok rfl rfl rfl rfl rfl ?_)
    refine seqO_call _ rfl Try.func39 rfl rfl rfl rfl (fun M' => all_calls hf ht hall M') rfl rfl rfl ?_
    repeat (refine seqO_p tok rfl rfl rfl rfl rfl ?_)
    refine seqO_boxo rfl rfl rfl rfl (by simp) rfl rfl rfl rfl fun b => ?_
    refine SeqO.done ?_
    repeat (first | refine aops_end ?_ | refine aops_p tok rfl rfl rfl rfl ?_)
    refine acode_pubref0 2 rfl ?_
    refine acode_ret ?_
    skip
    exact ⟨_, ⟨.inl ⟨h, rfl⟩, rfl⟩, _, _, rfl, resOf_tmp rfl, resOf_tmp rfl⟩
  · repeat' (first | refine aops_put rfl ?_ | refine aops_end ?_ | refine aops_p tok rfl rfl rfl rfl ?_ | refine acode_it rfl ?_ | refine acode_seq ?_ | refine acode_region ?_)
    refine acode_ret ?_
    repeat (refine ret_then ?_)
    exact ⟨_, ⟨.inr ⟨h, rfl⟩, rfl⟩, _, _, rfl, resOf_tmp rfl, resOf_tmp rfl⟩

/-- How many trees are listed at most. -/
def cutN (n : Int) : Nat := (max 0 (min n 10000)).toNat
theorem cutN_eq (n : Int) : max 0 (min n 10000) = ((cutN n : Nat) : Int) := by unfold cutN; omega
theorem cutN_le (n : Int) : cutN n ≤ 10000 := by unfold cutN; omega

set_option maxHeartbeats 4000000 in
theorem uall_calls {f : Fo} (hf : FoOk f) (hrg : FoRng f) (hlim : FForm f → Lim f f.root.toNat) (hb : FForm f → ((trL f f.root.toNat).length : Int) < great) (n : Int) (M : List Ob) :
    ACalls Try.prog 30 [foA f, .int .i64 n] M (fun r M' => (FForm f ∧ r = .tup [.psl ((trL f f.root.toNat).take (cutN n)).length (encs trC ((trL f f.root.toNat).take (cutN n))), .bool (decide ((trL f f.root.toNat).length ≤ cutN n))] ∨ ¬ FForm f ∧ r = .tup [.nils, .bool false]) ∧ M' = M) := by
  obtain ⟨hf1, hf2⟩ := id hf
  have hgr : great = 4611686018427387903 := rfl
  refine acalls_of_code 53 Try.func30 rfl rfl rfl ?_
  repeat (first | refine acode_seq ?_ | refine acode_region ?_)
  refine aops_boxf rfl rfl rfl rfl rfl rfl rfl ?_
  repeat (first | refine aops_end ?_ | refine aops_p tok rfl rfl rfl rfl ?_ | refine acode_seq ?_ | refine acode_region ?_)
  refine aops_call Try.func62 rfl rfl rfl rfl (ubegin_calls hf M) rfl rfl ?_
  rintro x M' ⟨hx, hM⟩
  obtain rfl : M = M' := hM.symm
  rcases hx with ⟨h, rfl⟩ | ⟨h, rfl⟩
  · repeat' (first | refine aops_put rfl ?_ | refine aops_end ?_ | refine aops_max tok rfl rfl rfl rfl rfl rfl ?_ | refine aops_min tok rfl rfl rfl rfl rfl rfl ?_ | refine aops_p tok rfl rfl rfl rfl ?_ | refine acode_if rfl ?_ | refine acode_seq ?_ | refine acode_region ?_ | refine acode_skip ?_ | refine then_n ?_)
    rw [cutN_eq]
    have hcl := cutN_le n
    generalize cutN n = c at *
    obtain ⟨⟨h0, h1⟩, hw⟩ := id h
    have hrl : f.root.toNat < f.nodes.length := by omega
    have hb := hb h
    have hnc := fun M => unode_calls hf hrg hw (hw _ hrl) (hlim h) M hb
    have hte := trees_exact (hw _ hrl) hb
    have hget := range_get (trees f) hrl
    rw [hte] at hget
    have hrt : (f.root.toNat : Int) = f.root := by omega
    unfold NodeC at hnc
    rw [hrt] at hnc
    have hmin : min (c : Int) ((trL f f.root.toNat).length : Int) = ((min c (trL f f.root.toNat).length : Nat) : Int) := by omega
    generalize hts : trL f f.root.toNat = ts at *
    refine acode_adopt 8 3 rfl ?_
    refine acode_drawT 11 mixed (by kernel_rfl) (by kernel_rfl) ?_
    repeat (refine seqT_p tok rfl rfl rfl rfl ?_)
    refine seqT_ix tok [A.int .i64 (ts.length : Nat)] rfl rfl rfl rfl h0 h1 (by simp) (ints_at hget) rfl rfl rfl ?_
    repeat (first | refine seqT_min tok rfl rfl rfl rfl rfl rfl ?_ | refine seqT_p tok rfl rfl rfl rfl ?_)
    refine SeqT.done ?_
    repeat (first | refine aops_end ?_ | refine acode_block ?_)
    rw [hmin]
    refine acode_loopS (ι := Nat × Option Nat × Nat) (fun q => [(1, .int .i64 (c : Nat)), (2, .pp (foC f)), (6, .pp (liC f)), (8, .own q.2.1 q.1 q.2.2), (29, .int .i64 ((min c ts.length : Nat) : Int)), (30, .int .i64 q.1)]) (fun q => ⟨q.2.1, q.2.2 * 3, encs trC (ts.take q.1)⟩ :: M) (fun q => min c ts.length - q.1) (fun q => q.1 ≤ min c ts.length) (0, none, 0) (Nat.zero_le _) ⟨rfl, rfl, rfl, rfl, rfl, rfl, trivial⟩ rfl ?_
    rintro ⟨q, ob, cap⟩ hq
    simp only at hq ⊢
    repeat (first | refine aops_end ?_ | refine aops_p tok rfl rfl rfl rfl ?_ | refine acode_seq ?_ | refine acode_region ?_)
    refine acode_id rfl (fun e => ?_) (fun e => ?_)
    · have hql : q < min c ts.length := by omega
      have hqt : q < ts.length := by omega
      obtain ⟨t, ht⟩ : ∃ t, ts[q]? = some t := ⟨ts[q], List.getElem?_eq_getElem hqt⟩
      repeat (first | refine aops_end ?_ | refine aops_p tok rfl rfl rfl rfl ?_ | refine acode_seq ?_ | refine acode_region ?_ | refine acode_block ?_ | refine acode_skip ?_ | refine then_n ?_)
      refine aops_call Try.func63 rfl rfl rfl rfl (hnc _ q hqt) rfl rfl ?_
      rintro x M' ⟨t', h1', rfl, rfl⟩
      obtain rfl : t = t' := Option.some.inj (ht.symm.trans h1')
      refine aops_put rfl ?_
      refine aops_litn tok rfl rfl rfl rfl rfl rfl rfl ?_
      refine aops_append tok 0 (m := 1) (ds := trC t) rfl rfl rfl (.inl (by rw [trC_eq]; rfl)) rfl rfl (by rw [encs_len trC_len, List.length_take, Nat.min_eq_left (by omega)]) (by rw [trC_len]; rfl) (by rw [trC_eq]; rfl) rfl (by show _ * 40 ≤ _; omega) (by omega) rfl rfl fun ob' cap' => ?_
      repeat (first | refine aops_put rfl ?_ | refine aops_end ?_ | refine aops_endb ?_ | refine aops_a tok rfl (by omega) (by omega) rfl rfl rfl ?_ | refine aops_p tok rfl rfl rfl rfl ?_ | refine acode_region ?_ | refine then_n ?_)
      refine ⟨(q + 1, ob', cap'), by simp; omega, by simp; omega, ⟨rfl, rfl, rfl, rfl, rfl, rfl, trivial⟩, ?_⟩
      simp only [List.take_add_one, ht, encs_app]
      simp [encs]
    · have hge : q = min c ts.length := by omega
      subst hge
      have htk : (ts.take (min c ts.length)) = ts.take c := by
        rw [List.take_eq_take_iff]; omega
      have htl : (ts.take c).length = min c ts.length := by rw [List.length_take]
      rw [htk]
      refine acode_exit ?_
      repeat (first | refine exit_then ?_ | refine exit_here ?_ | refine then_n ?_)
      refine acode_pub0 8 3 rfl rfl (by rw [encs_len trC_len, htl]) rfl ?_
      rw [← htl]
      refine acode_seq ?_
      refine acode_drawT 12 mixed (by kernel_rfl) (by kernel_rfl) ?_
      repeat (refine seqT_p tok rfl rfl rfl rfl ?_)
      refine seqT_ix tok [A.int .i64 (ts.length : Nat)] rfl rfl rfl rfl h0 h1 (by simp) (ints_at hget) rfl rfl rfl ?_
      repeat (refine seqT_p tok rfl rfl rfl rfl ?_)
      refine SeqT.done ?_
      repeat (first | refine aops_end ?_ | refine aops_p tok rfl rfl rfl rfl ?_)
      refine acode_ret ?_
      skip
      refine ⟨_, ⟨.inl ⟨h, rfl⟩, rfl⟩, _, _, rfl, resOf_tmp rfl, resOf_tmp ?_⟩
      show A.bool (decide ((ts.length : Int) ≤ c)) = A.bool (decide (ts.length ≤ c))
      rw [decide_eq_decide.2 Int.ofNat_le]
  · repeat' (first | refine aops_put rfl ?_ | refine aops_end ?_ | refine aops_p tok rfl rfl rfl rfl ?_ | refine acode_it rfl ?_ | refine acode_seq ?_ | refine acode_region ?_)
    refine acode_ret ?_
    repeat (refine ret_then ?_)
    exact ⟨_, ⟨.inr ⟨h, rfl⟩, rfl⟩, _, _, rfl, resOf_tmp rfl, resOf_tmp rfl⟩
end Go.Proofs.Ytnlmfhnjjblhoaa.Ab
/- The reference's n-th tree: the walk. No condition. -/
set_option linter.unusedVariables false
set_option linter.unusedSimpArgs false
namespace Go.Proofs.Ytnlmfhnjjblhoaa.Ab
attribute [local irreducible] thenA inBlockA ACode AOps put IntKind.wrap

theorem plen_drop_le {α : Type} : ∀ {ls : List (List α)} (j : Nat), 0 < plen ls → 0 < plen (ls.drop j) ∧ plen (ls.drop j) ≤ plen ls
  | ls, 0, h => by simpa using h
  | [], j + 1, h => by simp [plen]
  | l :: ls, j + 1, h => by
    simp only [plen, List.drop_succ_cons] at h ⊢
    have h1 : 0 < l.length := Nat.pos_of_mul_pos_right h
    have h2 : 0 < plen ls := Nat.pos_of_mul_pos_left h
    obtain ⟨a, b⟩ := plen_drop_le (ls := ls) j h2
    exact ⟨a, Nat.le_trans b (Nat.le_mul_of_pos_left _ h1)⟩
/-- What is left of a number ahead of some digits. -/
def rdig {α : Type} (ls : List (List α)) (n j : Nat) : Nat := n % plen (ls.drop j)
theorem rdig_zero {α : Type} {ls : List (List α)} {n : Nat} (h : n < plen ls) : rdig ls n 0 = n := by unfold rdig; rw [List.drop_zero, Nat.mod_eq_of_lt h]
theorem rdig_step {α : Type} {ls : List (List α)} {n j : Nat} {l : List α} (h : ls[j]? = some l) : rdig ls n (j + 1) = rdig ls n j % plen (ls.drop (j + 1)) := by
  unfold rdig; rw [plen_drop h, Nat.mod_mul_left_mod]
theorem rdig_digit {α : Type} {ls : List (List α)} {n j : Nat} {l : List α} (h : ls[j]? = some l) : rdig ls n j / plen (ls.drop (j + 1)) = n / plen (ls.drop (j + 1)) % l.length := by
  unfold rdig; rw [plen_drop h, Nat.mul_comm, Nat.mod_mul_right_div_self]
theorem altF_step {T : Nat → Int} {ks : List Int} {p : Nat} {k v : Int} (h : ks[p]? = some k) : altF T v (ks.drop p) = altF T (if 0 ≤ k then mulN v (T k.toNat) else v) (ks.drop (p + 1)) := by
  rw [drop_at h]; rfl
/-- The n-th tree of a node is told by the reference. -/
def RNthC (f : Fo) (b bs : Nat) (M : List Ob) (i : Nat) : Prop := ∀ ks, Kp f ks → ∀ n : Nat, n < (trL f i).length →
  ACalls Try.prog 60 [.ref b 0, .int .i64 i, .int .i64 n] (wkC f b bs ks M) (fun r M' => ∃ t, (trL f i)[n]? = some t ∧ r = trA t ∧ ∃ ks', Kp f ks' ∧ M' = wkC f b bs ks' M)

set_option maxHeartbeats 8000000 in
theorem rnth_calls {f : Fo} (hf : FoOk f) (hrg : FoRng f) (hall : ∀ i, i < f.nodes.length → WF f i) (b bs : Nat) {i : Nat} (hwf : WF f i) : Lim f i → ∀ M, ((trL f i).length : Int) < great → RNthC f b bs M i := by
  induction hwf with
  | @mk i hi hkn hkw ih =>
  intro hlim M hb ks0 hks0 n hn
  have hwf : WF f i := .mk hi hkn hkw
  obtain ⟨hf1, hf2⟩ := id hf
  obtain ⟨nd, hnd, hndm, hal⟩ := nodes_at hi
  obtain ⟨hal1, hal2⟩ := hf2 nd hndm
  have hgr : great = 4611686018427387903 := rfl
  have hT := trL_eq hwf
  unfold nodeL at hT
  rw [hal] at hT
  generalize hti : trL f i = ti at *
  have hal0 : 0 < nd.alts.length := by
    apply Nat.pos_of_ne_zero
    intro h0
    rw [List.eq_nil_of_length_eq_zero h0] at hT
    rw [hT] at hn
    simp at hn
  have hmi : ∀ a ∈ nd.alts, a ∈ altsOf f i := fun a ha => by rw [hal]; exact ha
  have hkd : ∀ a ∈ nd.alts, ∀ k : Nat, (k : Int) ∈ a.kids → Kid f i k := fun a ha k hk => ⟨a, hmi a ha, hk⟩
  have hce : ∀ a ∈ nd.alts, (altL (trL f) a).length ≤ ti.length → altF (trees f) 1 a.kids = (altL (trL f) a).length := fun a ha h => by
    rw [altF_len (g := trL f) fun k hk => trees_sat (hkw k (hkd a ha k hk)), sat_small (by omega)]
  have hra : ∀ a ∈ nd.alts, ∀ (M : List Ob) {ks : List Int}, Kp f ks → ACalls Try.prog 68 [.ref b 0, .agg (alC a)] (wkC f b bs ks M) (fun r M' => r = .int .i64 (altF (trees f) 1 a.kids) ∧ ∃ ks', Kp f ks' ∧ M' = wkC f b bs ks' M) := fun a ha M ks hks =>
    ralt_calls (by have := hal2 a ha; omega) (fun k hk => ⟨hkw k (hkd a ha k hk), rnode_calls hf b bs M (hkw k (hkd a ha k hk))⟩) hks
  refine acalls_of_code 130 Try.func60 rfl rfl rfl ?_
  repeat (first | refine acode_seq ?_ | refine acode_region ?_)
  refine aops_alloc tok rfl rfl rfl rfl rfl rfl fun br => ?_
  skip
  refine aops_end ?_
  refine acode_perm (wkC f b bs ks0 (⟨some br, 3, zeroT⟩ :: M)) ?_ ?_
  · exact (List.perm_middle (l₁ := [_, _])).symm
  repeat (first | refine aops_p tok rfl rfl rfl rfl ?_ | refine aops_ld tok 0 rfl rfl rfl rfl rfl rfl rfl rfl ?_ | refine acode_seq ?_ | refine acode_region ?_)
  refine aops_ix tok (ndC nd) rfl rfl rfl rfl (by omega) (by omega) (by simp [ndC]) (nd_at hnd) rfl rfl rfl ?_
  repeat (refine aops_p tok rfl rfl rfl rfl ?_)
  refine aops_end ?_
  refine acode_seq ?_
  refine acode_region ?_
  repeat (refine aops_p tok rfl rfl rfl rfl ?_)
  refine aops_end ?_
  refine acode_seq ?_
  refine acode_joinI (ι := Nat × Nat × List Int) (fun q => [(0, .ref b 0), (2, .int .i64 q.2.1), (6, .ref br 0), (7, .psl nd.alts.length (encs alC nd.alts)), (8, .int .i64 q.1)]) (fun q => wkC f b bs q.2.2 (⟨some br, 3, zeroT⟩ :: M)) (fun q => Kp f q.2.2 ∧ ∃ a, nd.alts[q.1]? = some a ∧ (altL (trL f) a).length ≤ ti.length ∧ q.2.1 < (altL (trL f) a).length ∧ ti[n]? = (altL (trL f) a)[q.2.1]?) ?_ ?_
  · refine acode_block ?_
    refine acode_loopS (ι := Nat × Nat × List Int) (fun q => [(0, .ref b 0), (2, .int .i64 q.2.1), (6, .ref br 0), (7, .psl nd.alts.length (encs alC nd.alts)), (8, .int .i64 q.1)]) (fun q => wkC f b bs q.2.2 (⟨some br, 3, zeroT⟩ :: M)) (fun q => nd.alts.length - q.1) (fun q => q.1 < nd.alts.length ∧ Kp f q.2.2 ∧ ti[n]? = ((nd.alts.drop q.1).flatMap (altL (trL f)))[q.2.1]? ∧ q.2.1 < ((nd.alts.drop q.1).flatMap (altL (trL f))).length ∧ ((nd.alts.drop q.1).flatMap (altL (trL f))).length ≤ ti.length) (0, n, ks0) ⟨hal0, hks0, by rw [List.drop_zero, ← hT], by rw [List.drop_zero, ← hT]; exact hn, by rw [List.drop_zero, ← hT]; exact Nat.le_refl _⟩ ⟨rfl, rfl, rfl, rfl, rfl, trivial⟩ rfl ?_
    rintro ⟨q, m, ks⟩ ⟨hql, hks, hat, hm, hmt⟩
    simp only at hql hks hat hm hmt ⊢
    obtain ⟨a, ha⟩ : ∃ a, nd.alts[q]? = some a := ⟨nd.alts[q], List.getElem?_eq_getElem hql⟩
    have ham := List.mem_of_getElem? ha
    rw [flat_drop ha] at hat hm hmt
    rw [List.length_append] at hm hmt
    have hce' := hce a ham (by omega)
    repeat' (first | refine aops_end ?_ | refine aops_o rfl rfl rfl ?_ | refine aops_a tok rfl (by omega) (by omega) rfl rfl rfl ?_ | (refine aops_pd tok rfl rfl rfl rfl ?_ ?_ <;> intro e_) | refine aops_p tok rfl rfl rfl rfl ?_ | refine acode_if rfl ?_ | refine acode_seq ?_ | refine acode_region ?_)
    · refine aops_ix tok (alC a) rfl rfl rfl rfl (by omega) (by omega) (by simp [alC]) (al_at ha) rfl rfl rfl ?_
      repeat (refine aops_p tok rfl rfl rfl rfl ?_)
      refine aops_call Try.func68 rfl rfl rfl rfl (hra a ham _ hks) rfl rfl ?_
      rintro x M' ⟨rfl, ks1, hks1, rfl⟩
      rw [hce']
      repeat' (first | refine aops_put rfl ?_ | refine aops_end ?_ | (refine aops_pd tok rfl rfl rfl rfl ?_ ?_ <;> intro e_) | refine aops_p tok rfl rfl rfl rfl ?_ | refine acode_it rfl ?_ | refine acode_if rfl ?_ | refine acode_seq ?_ | refine acode_region ?_ | refine acode_block ?_ | refine acode_skip ?_ | refine then_n ?_)
      · refine aops_ix tok (alC a) rfl rfl rfl rfl (by omega) (by omega) (by simp [alC]) (al_at ha) rfl rfl rfl ?_
        repeat (refine aops_p tok rfl rfl rfl rfl ?_)
        refine aops_call Try.func68 rfl rfl rfl rfl (hra a ham _ hks1) rfl rfl ?_
        rintro x M' ⟨rfl, ks2, hks2, rfl⟩
        rw [hce']
        rw [List.getElem?_append_right (by omega)] at hat
        have e3 : ((m - (altL (trL f) a).length : Nat) : Int) = (m : Int) - (altL (trL f) a).length := by omega
        repeat (first | refine aops_put rfl ?_ | refine aops_end ?_ | refine aops_endb ?_ | refine aops_a tok rfl (by omega) (by omega) rfl rfl rfl ?_ | refine aops_p tok rfl rfl rfl rfl ?_ | refine acode_region ?_ | refine then_n ?_)
        exact ⟨(q + 1, m - (altL (trL f) a).length, ks2), ⟨by simp only; omega, hks2, hat, by simp only; omega, by simp only; omega⟩, by simp only; omega, ⟨rfl, by rw [e3]; rfl, rfl, rfl, rfl, trivial⟩, rfl⟩
      · refine acode_exit ?_
        repeat (first | refine exit_then ?_ | refine exit_here ?_ | refine then_n ?_)
        have hma : m < (altL (trL f) a).length := by omega
        rw [List.getElem?_append_left hma] at hat
        exact ⟨(q, m, ks1), ⟨hks1, a, ha, by omega, hma, hat⟩, ⟨rfl, rfl, rfl, rfl, rfl, trivial⟩, rfl⟩
    · refine acode_exit ?_
      repeat (first | refine exit_then ?_ | refine exit_here ?_ | refine then_n ?_)
      have hd : nd.alts.drop (q + 1) = [] := List.drop_eq_nil_of_le (by omega)
      rw [hd] at hat hm hmt
      simp only [List.flatMap_nil, List.append_nil, List.length_nil, Nat.add_zero] at hat hm hmt
      exact ⟨(q, m, ks), ⟨hks, a, ha, hmt, hm, hat⟩, ⟨rfl, rfl, rfl, rfl, rfl, trivial⟩, rfl⟩
  · rintro ⟨q, m, ks⟩ ⟨hks, a, ha, hmt, hm, hat⟩
    simp only at hks ha hm hat ⊢
    have hql := (List.getElem?_eq_some_iff.1 ha).1
    have ham := List.mem_of_getElem? ha
    have hkl := hal2 a ham
    have hkl2 := hlim.len (hmi a ham)
    have hrga := hrg nd hndm a ham
    have hmp := hm
    rw [altL_len] at hmp
    have hpb : (plen (kidsL (trL f) a.kids) : Int) < great := by rw [← altL_len]; omega
    obtain ⟨out, ho1, ho2, ho3⟩ := prodL_at (kidsL (trL f) a.kids) m hmp
    have hres : (altL (trL f) a)[m]? = some (.mk a.rule 0 out) := by simp [altL, ho1]
    have hLl : (kidsL (trL f) a.kids).length = a.kids.length := by simp [kidsL]
    have hpos : 0 < plen (kidsL (trL f) a.kids) := by omega
    have hLj : ∀ (j : Nat) (k : Int), a.kids[j]? = some k → (kidsL (trL f) a.kids)[j]? = some (if 0 ≤ k then trL f k.toNat else [leafT k]) := fun j k h => by simp [kidsL, h]
    have hmem : ∀ (j : Nat) l, (kidsL (trL f) a.kids)[j]? = some l → 0 < l.length ∧ l.length ≤ plen (kidsL (trL f) a.kids) := fun j l h => plen_pos hpos (List.mem_of_getElem? h)
    have hrest : ∀ j, altF (trees f) 1 (a.kids.drop j) = (plen ((kidsL (trL f) a.kids).drop j) : Nat) := fun j => by
      have h1 := altF_sat (g := trL f) (T := trees f) (a.kids.drop j) 1 (fun k hk => trees_sat (hkw k (hkd a ham k (List.mem_of_mem_drop hk))))
      have h2 := (plen_drop_le j hpos).2
      rw [show sat ((1 : Nat) : Int) = 1 from by decide, Nat.one_mul] at h1
      rw [h1, show kidsL (trL f) (a.kids.drop j) = (kidsL (trL f) a.kids).drop j from by simp [kidsL, List.map_drop], sat_small (by omega)]
    generalize kidsL (trL f) a.kids = L at *
    have hol : out.length = a.kids.length := by omega
    repeat (first | refine aops_p tok rfl rfl rfl rfl ?_ | refine acode_seq ?_ | refine acode_region ?_)
    refine aops_ix tok (alC a) rfl rfl rfl rfl (by omega) (by omega) (by simp [alC]) (al_at ha) rfl rfl rfl ?_
    repeat (refine aops_p tok rfl rfl rfl rfl ?_)
    refine aops_alloc tok rfl rfl rfl rfl rfl rfl fun bt => ?_
    refine aops_stn tok rfl rfl rfl rfl rfl rfl rfl rfl rfl ?_
    refine aops_adoptF 2 rfl rfl ?_
    refine aops_end ?_
    refine acode_perm (wkC f b bs ks (⟨some bt, 3, [.int .i64 a.rule, .int .i64 0, .own none 0 0]⟩ :: ⟨none, 0, []⟩ :: ⟨some br, 3, zeroT⟩ :: M)) ?_ ?_
    · exact (List.perm_append_comm (l₁ := [_, _]) (l₂ := [_, _])).append_right _
    repeat (first | refine aops_end ?_ | refine aops_p tok rfl rfl rfl rfl ?_ | refine acode_seq ?_ | refine acode_region ?_ | refine acode_block ?_)
    refine acode_loopS (ι := Nat × Option Nat × Nat × List Int) (fun p => [(0, .ref b 0), (2, .int .i64 (rdig L m p.1 : Nat)), (6, .ref br 0), (7, .psl nd.alts.length (encs alC nd.alts)), (8, .int .i64 q), (9, .ref bt 0), (10, .int .i64 p.1)]) (fun p => wkC f b bs p.2.2.2 (⟨some bt, 3, [.int .i64 a.rule, .int .i64 0, .own p.2.1 p.1 p.2.2.1]⟩ :: ⟨p.2.1, p.2.2.1 * 3, encs trC (out.take p.1)⟩ :: ⟨some br, 3, zeroT⟩ :: M)) (fun p => a.kids.length - p.1) (fun p => p.1 ≤ a.kids.length ∧ Kp f p.2.2.2 ∧ (p.1 = 0 ∧ p.2.1 = none ∧ p.2.2.1 = 0 ∨ ∃ c, p.2.1 = some c)) (0, none, 0, ks) ⟨Nat.zero_le _, hks, .inl ⟨rfl, rfl, rfl⟩⟩ ⟨rfl, by rw [rdig_zero hmp]; rfl, rfl, rfl, rfl, rfl, rfl, trivial⟩ rfl ?_
    clear hks ks
    rintro ⟨j, ob, cap, ks⟩ ⟨hj, hks, hob⟩
    simp only at hj hks hob ⊢
    repeat (first | refine aops_p tok rfl rfl rfl rfl ?_ | refine acode_seq ?_ | refine acode_region ?_)
    refine aops_ix tok (alC a) rfl rfl rfl rfl (by omega) (by omega) (by simp [alC]) (al_at ha) rfl rfl rfl ?_
    repeat (first | refine aops_end ?_ | refine aops_p tok rfl rfl rfl rfl ?_)
    refine acode_id rfl (fun e => ?_) (fun e => ?_)
    · have hjl : j < a.kids.length := by omega
      obtain ⟨k, hk⟩ : ∃ k, a.kids[j]? = some k := ⟨a.kids[j], List.getElem?_eq_getElem hjl⟩
      have hkm := List.mem_of_getElem? hk
      have hkr := hrga k hkm
      obtain ⟨hkr0, hkr1⟩ := id hkr
      have hLi := hLj j k hk
      obtain ⟨t, ht1, ht2⟩ := ho3 j _ hLi
      have hrs := rdig_step (n := m) hLi
      have hrd := rdig_digit (n := m) hLi
      have htk : out.take (j + 1) = out.take j ++ [t] := by rw [List.take_add_one, ht1]; rfl
      have hle : rdig L m j ≤ m := Nat.mod_le _ _
      obtain ⟨hp0, hp1⟩ := plen_drop_le (j + 1) hpos
      repeat (first | refine aops_p tok rfl rfl rfl rfl ?_ | refine acode_seq ?_ | refine acode_region ?_ | refine acode_block ?_ | refine acode_skip ?_ | refine then_n ?_)
      refine aops_ix tok (alC a) rfl rfl rfl rfl (by omega) (by omega) (by simp [alC]) (al_at ha) rfl rfl rfl ?_
      repeat (refine aops_p tok rfl rfl rfl rfl ?_)
      refine aops_ix tok [A.int .i64 k] rfl rfl rfl rfl (by omega) (by omega) (by simp) (ints_at (j := j) (by simpa using hk)) rfl rfl rfl ?_
      repeat' (first | refine aops_end ?_ | refine aops_a tok rfl (by omega) (by omega) rfl rfl rfl ?_ | (refine aops_pd tok rfl rfl rfl rfl ?_ ?_ <;> intro e_) | refine aops_p tok rfl rfl rfl rfl ?_ | refine acode_it rfl ?_ | refine acode_if rfl ?_ | refine acode_seq ?_ | refine acode_region ?_ | refine acode_block ?_ | refine acode_skip ?_ | refine then_n ?_)
      · -- a token
        rw [if_neg (by omega)] at ht2 hLi
        have htl : t = leafT k := by simpa [Nat.mod_one] using ht2.symm
        subst htl
        have hrs' : rdig L m (j + 1) = rdig L m j := by unfold rdig; rw [plen_drop hLi]; simp
        refine aops_ld tok 2 rfl rfl rfl rfl rfl rfl rfl rfl ?_
        repeat (first | refine aops_a tok rfl (by omega) (by omega) rfl rfl rfl ?_ | refine aops_p tok rfl rfl rfl rfl ?_)
        refine aops_softt 78 (y := trA (leafT k)) rfl ?_
        refine aops_litn tok rfl rfl rfl rfl rfl rfl rfl ?_
        refine aops_append tok 3 (m := 1) (ds := trC (leafT k)) rfl rfl rfl (.inl (by rw [trC_eq]; rfl)) rfl rfl (by rw [encs_len trC_len, List.length_take, Nat.min_eq_left (by omega)]) (by rw [trC_len]; rfl) (by rw [trC_eq]; rfl) rfl (by show _ * 40 ≤ _; omega) (by omega) rfl rfl fun ob' cap' => ?_
        refine aops_put rfl ?_
        refine aops_somed 80 rfl (by omega) fun c hc => ?_
        subst hc
        repeat (refine aops_p tok rfl rfl rfl rfl ?_)
        refine aops_stk tok 2 [.int .i64 a.rule, .int .i64 0, .own (some c) (j + 1) cap'] _ rfl rfl rfl rfl rfl rfl (show 2 + 1 ≤ 3 from by decide) rfl rfl rfl rfl ?_
        refine aops_end ?_
        refine acode_exit ?_
        repeat (first | refine exit_then ?_ | refine exit_here ?_ | refine then_n ?_)
        repeat (first | refine aops_end ?_ | refine aops_a tok rfl (by omega) (by omega) rfl rfl rfl ?_ | refine aops_p tok rfl rfl rfl rfl ?_ | refine acode_region ?_)
        refine ⟨(j + 1, some c, cap', ks), ⟨by simp only; omega, hks, .inr ⟨c, rfl⟩⟩, by simp only; omega, ⟨rfl, by rw [hrs']; rfl, rfl, rfl, rfl, rfl, rfl, trivial⟩, ?_⟩
        simp only [htk, encs_app]
        simp [encs]
      · -- a node
        obtain ⟨k', rfl⟩ : ∃ k' : Nat, k = k' := ⟨k.toNat, by omega⟩
        rw [if_pos (by omega), Int.toNat_natCast] at ht2 hLi
        rw [if_pos (by omega), Int.toNat_natCast] at hrd
        have hkk := hkd a ham k' hkm
        have hwk := hkw k' hkk
        have hkb : ((trL f k').length : Int) < great := by have := hmem j _ hLi; omega
        have hrc := hrest (j + 1)
        skip
        refine acode_loopS (ι := Nat × Int × List Int) (fun p => [(0, .ref b 0), (2, .int .i64 (rdig L m j : Nat)), (6, .ref br 0), (7, .psl nd.alts.length (encs alC nd.alts)), (8, .int .i64 q), (9, .ref bt 0), (10, .int .i64 j), (11, .int .i64 k'), (12, .int .i64 p.2.1), (13, .int .i64 p.1)]) (fun p => wkC f b bs p.2.2 (⟨some bt, 3, [.int .i64 a.rule, .int .i64 0, .own ob j cap]⟩ :: ⟨ob, cap * 3, encs trC (out.take j)⟩ :: ⟨some br, 3, zeroT⟩ :: M)) (fun p => a.kids.length - p.1) (fun p => p.1 ≤ a.kids.length ∧ isN p.2.1 ∧ Kp f p.2.2 ∧ altF (trees f) p.2.1 (a.kids.drop p.1) = (plen (L.drop (j + 1)) : Nat)) (j + 1, 1, ks) ⟨by simp only; omega, ⟨show (0 : Int) ≤ 1 from by decide, show (1 : Int) ≤ great from by decide⟩, hks, hrc⟩ ⟨rfl, rfl, rfl, rfl, rfl, rfl, rfl, rfl, rfl, rfl, trivial⟩ rfl ?_
        clear hks ks
        rintro ⟨p, v, ks⟩ ⟨hp, hv, hks, hgo⟩
        simp only at hp hv hks hgo ⊢
        repeat (first | refine aops_p tok rfl rfl rfl rfl ?_ | refine acode_seq ?_ | refine acode_region ?_)
        refine aops_ix tok (alC a) rfl rfl rfl rfl (by omega) (by omega) (by simp [alC]) (al_at ha) rfl rfl rfl ?_
        repeat (first | refine aops_end ?_ | refine aops_p tok rfl rfl rfl rfl ?_)
        refine acode_id rfl (fun e2 => ?_) (fun e2 => ?_)
        · have hpl : p < a.kids.length := by omega
          obtain ⟨k2, hk2⟩ : ∃ k, a.kids[p]? = some k := ⟨a.kids[p], List.getElem?_eq_getElem hpl⟩
          have hkm2 := List.mem_of_getElem? hk2
          rw [altF_step hk2] at hgo
          repeat (first | refine aops_p tok rfl rfl rfl rfl ?_ | refine acode_seq ?_ | refine acode_region ?_ | refine acode_block ?_ | refine acode_skip ?_ | refine then_n ?_)
          refine aops_ix tok (alC a) rfl rfl rfl rfl (by omega) (by omega) (by simp [alC]) (al_at ha) rfl rfl rfl ?_
          repeat (refine aops_p tok rfl rfl rfl rfl ?_)
          refine aops_ix tok [A.int .i64 k2] rfl rfl rfl rfl (by omega) (by omega) (by simp) (ints_at (j := p) (by simpa using hk2)) rfl rfl rfl ?_
          repeat' (first | refine aops_end ?_ | refine aops_a tok rfl (by omega) (by omega) rfl rfl rfl ?_ | (refine aops_pd tok rfl rfl rfl rfl ?_ ?_ <;> intro e_) | refine aops_p tok rfl rfl rfl rfl ?_ | refine acode_it rfl ?_ | refine acode_if rfl ?_ | refine acode_region ?_ | refine acode_skip ?_ | refine then_n ?_ | refine block_n ?_)
          · obtain ⟨k3, rfl⟩ : ∃ k3 : Nat, k2 = k3 := ⟨k2.toNat, by omega⟩
            rw [if_pos (by omega), Int.toNat_natCast] at hgo
            have hwk3 := hkw k3 (hkd a ham k3 hkm2)
            refine aops_ix tok (alC a) rfl rfl rfl rfl (by omega) (by omega) (by simp [alC]) (al_at ha) rfl rfl rfl ?_
            repeat (refine aops_p tok rfl rfl rfl rfl ?_)
            refine aops_ix tok [A.int .i64 k3] rfl rfl rfl rfl (by omega) (by omega) (by simp) (ints_at (j := p) (by simpa using hk2)) rfl rfl rfl ?_
            repeat (refine aops_p tok rfl rfl rfl rfl ?_)
            refine aops_call Try.func41 rfl rfl rfl rfl (rnode_calls hf b bs _ hwk3 ks hks) rfl rfl ?_
            rintro x M' ⟨rfl, ks', hks', rfl⟩
            repeat (refine aops_put rfl ?_)
            refine aops_callx Try.func79 rfl rfl rfl rfl (rtimes_calls hv (trees_is hwk3) _) rfl rfl rfl ?_
            repeat (first | refine aops_end ?_ | refine aops_endb ?_ | refine aops_a tok rfl (by omega) (by omega) rfl rfl rfl ?_ | refine aops_p tok rfl rfl rfl rfl ?_ | refine acode_region ?_ | refine then_n ?_)
            exact ⟨(p + 1, mulN v (trees f k3), ks'), ⟨by simp only; omega, mulN_is hv (trees_is hwk3), hks', hgo⟩, by simp only; omega, ⟨rfl, rfl, rfl, rfl, rfl, rfl, rfl, rfl, rfl, rfl, trivial⟩, rfl⟩
          · rw [if_neg (by omega)] at hgo
            exact ⟨(p + 1, v, ks), ⟨by simp only; omega, hv, hks, hgo⟩, by simp only; omega, ⟨rfl, rfl, rfl, rfl, rfl, rfl, rfl, rfl, rfl, rfl, trivial⟩, rfl⟩
        · have hge : p = a.kids.length := by omega
          subst hge
          rw [List.drop_length] at hgo
          have hgo : v = (plen (L.drop (j + 1)) : Nat) := hgo
          subst hgo
          refine acode_exit ?_
          repeat (first | refine exit_then ?_ | refine exit_here ?_ | refine then_n ?_)
          obtain ⟨dk, hdk1, hdk2⟩ := decP (Kp f) hks
          have hnd : rdig L m j / plen (L.drop (j + 1)) < (trL f k').length := by rw [hrd]; exact Nat.mod_lt _ (hmem j _ hLi).1
          refine acode_seq ?_
          refine acode_drawP [⟨some bt, 3, [.int .i64 a.rule, .int .i64 0, .own ob j cap]⟩] 11 [0, 1, 2, 3, 4, 5, 6, 7, 8, 9, 10] [7, 9] mixed (by kernel_rfl) (by kernel_rfl) rfl ?_
          repeat (first | refine seqO_p tok rfl rfl rfl rfl rfl ?_ | refine seqO_ld tok 0 rfl rfl rfl rfl rfl (by simp) rfl rfl rfl rfl ?_)
          refine seqO_quo rfl rfl rfl rfl (by omega) (by omega) (by omega) rfl rfl rfl ?_
          rw [← Int.natCast_ediv]
          refine seqO_callw (fun _ => trA t) (fun z => wkC f b bs (dk z) (⟨some bt, 3, [.int .i64 a.rule, .int .i64 0, .own ob j cap]⟩ :: ⟨ob, cap * 3, encs trC (out.take j)⟩ :: ⟨some br, 3, zeroT⟩ :: M)) rfl Try.func60 rfl rfl rfl rfl ((ih k' hkk (hlim.kid hkk) _ hkb ks hks _ hnd).mono ?_) (by simp) rfl rfl rfl fun z => ?_
          · rintro r M' ⟨t', h1, rfl, ks', hks', rfl⟩
            rw [hrd, ht2] at h1
            cases h1
            obtain ⟨z, hz⟩ := hdk2 ks' hks'
            exact ⟨z, rfl, by rw [hz]⟩
          refine seqO_lit tok rfl rfl rfl rfl rfl rfl rfl rfl rfl ?_
          refine seqO_app tok 3 (m := 1) (ds := trC t) rfl rfl rfl rfl (.inl (by rw [trC_eq]; rfl)) rfl rfl (by rw [encs_len trC_len, List.length_take, Nat.min_eq_left (by omega)]) (by rw [trC_len]; rfl) (by rw [trC_eq]; rfl) rfl (by show _ * 40 ≤ _; omega) (by omega) (by intro y o ho; simp at ho ⊢; simp [ho]) rfl rfl rfl fun ob' cap' => ?_
          repeat (refine seqO_p tok rfl rfl rfl rfl rfl ?_)
          refine SeqO.done ?_
          refine aops_somed 124 rfl (by omega) fun c hc => ?_
          subst hc
          refine aops_stk tok 2 [.int .i64 a.rule, .int .i64 0, .own (some c) (j + 1) cap'] _ rfl rfl rfl rfl rfl rfl (show 2 + 1 ≤ 3 from by decide) rfl rfl rfl rfl ?_
          repeat (first | refine aops_end ?_ | refine aops_p tok rfl rfl rfl rfl ?_ | refine acode_region ?_)
          refine aops_rem rfl rfl rfl (by omega) (by omega) (by omega) rfl rfl rfl ?_
          rw [← Int.natCast_emod]
          repeat (first | refine aops_end ?_ | refine aops_endb ?_ | refine aops_a tok rfl (by omega) (by omega) rfl rfl rfl ?_ | refine aops_p tok rfl rfl rfl rfl ?_ | refine acode_region ?_ | refine then_n ?_)
          refine ⟨(j + 1, some c, cap', dk z), ⟨by simp only; omega, hdk1 z, .inr ⟨c, rfl⟩⟩, by simp only; omega, ⟨rfl, by rw [hrs]; rfl, rfl, rfl, rfl, rfl, rfl, trivial⟩, ?_⟩
          simp only [htk, encs_app]
          simp [encs]
    · have hge : j = a.kids.length := by omega
      subst hge
      have htk : out.take a.kids.length = out := List.take_of_length_le (by omega)
      rw [htk]
      refine acode_exit ?_
      repeat (first | refine exit_then ?_ | refine exit_here ?_ | refine then_n ?_)
      repeat (first | refine acode_seq ?_ | refine acode_region ?_)
      refine aops_ld tok 2 rfl rfl rfl rfl rfl rfl rfl rfl ?_
      refine aops_stk tok 4 [.int .i64 a.rule, .int .i64 0, .own ob a.kids.length cap] _ rfl rfl rfl rfl rfl rfl (show 0 + 3 ≤ 3 from by decide) rfl rfl rfl rfl ?_
      refine aops_end ?_
      refine acode_drop 2 ?_
      refine acode_perm ([⟨ob, cap * 3, encs trC out⟩, ⟨some br, 3, [.int .i64 a.rule, .int .i64 0, .own ob a.kids.length cap]⟩] ++ wkC f b bs ks M) ?_ ?_
      · exact (List.perm_append_comm (l₁ := [_, _]) (l₂ := [_, _])).append_right _
      refine acode_freezeV [⟨ob, cap * 3, encs trC out⟩, ⟨some br, 3, [.int .i64 a.rule, .int .i64 0, .own ob a.kids.length cap]⟩] [(6, .pp [.int .i64 a.rule, .int .i64 0, .psl out.length (encs trC out)])] ⟨.ref (.tail _ (.head _)) (.cons (.refl _) (.cons (.refl _) (.cons ?_ .nil))), trivial⟩ ?_
      · rcases hob with ⟨h0, rfl, rfl⟩ | ⟨c, rfl⟩
        · have : out = [] := List.eq_nil_of_length_eq_zero (by omega)
          rw [h0, this]; exact .none
        · rw [← hol]; exact .own (.head _) rfl (by rw [encs_len trC_len]) (by decide) (VwL.rfl' _)
      refine acode_ret ?_
      skip
      exact ⟨_, ⟨_, hat.trans hres, rfl, ks, hks, rfl⟩, resOf_pp tok rfl rfl rfl⟩
end Go.Proofs.Ytnlmfhnjjblhoaa.Ab
/- The reference's All and Nth, the lister's Nth: the walk. No condition. -/
set_option linter.unusedVariables false
set_option linter.unusedSimpArgs false
namespace Go.Proofs.Ytnlmfhnjjblhoaa.Ab
attribute [local irreducible] thenA inBlockA ACode AOps put IntKind.wrap

def cut (n low high : Int) : Int := if n < low then low else if n > high then high else n
theorem cut_calls {n low high : Int} (M : List Ob) : ACalls Try.prog 47 [.int .i64 n, .int .i64 low, .int .i64 high] M (fun r M' => r = .int .i64 (cut n low high) ∧ M' = M) := by
  refine acalls_of_code 18 Try.func47 rfl rfl rfl ?_
  repeat (first | refine aops_end ?_ | refine aops_p tok rfl rfl rfl rfl ?_ | refine acode_seq ?_ | refine acode_region ?_ | refine acode_block ?_)
  refine acode_cond rfl (fun e1 => ?_) (fun e1 => ?_)
  · repeat (first | refine aops_end ?_ | refine aops_p tok rfl rfl rfl rfl ?_ | refine acode_seq ?_ | refine acode_region ?_)
    refine acode_ret ?_
    repeat (first | refine ret_then ?_ | refine ret_block ?_)
    exact ⟨_, ⟨rfl, rfl⟩, resOf_tmp (by unfold cut; rw [if_pos (by simpa using e1)]; rfl)⟩
  · repeat (first | refine aops_end ?_ | refine aops_p tok rfl rfl rfl rfl ?_ | refine acode_seq ?_ | refine acode_region ?_)
    refine acode_cond rfl (fun e2 => ?_) (fun e2 => ?_)
    · repeat (first | refine aops_end ?_ | refine aops_p tok rfl rfl rfl rfl ?_ | refine acode_seq ?_ | refine acode_region ?_)
      refine acode_ret ?_
      repeat (first | refine ret_then ?_ | refine ret_block ?_)
      exact ⟨_, ⟨rfl, rfl⟩, resOf_tmp (by unfold cut; rw [if_neg (by simpa using e1), if_pos (by simpa using e2)]; rfl)⟩
    · repeat (first | refine aops_end ?_ | refine aops_p tok rfl rfl rfl rfl ?_ | refine acode_seq ?_ | refine acode_region ?_ | refine acode_skip ?_ | refine then_n ?_ | refine block_n ?_)
      refine acode_ret ?_
      skip
      exact ⟨_, ⟨rfl, rfl⟩, resOf_tmp (by unfold cut; rw [if_neg (by simpa using e1), if_neg (by simpa using e2)]; rfl)⟩
theorem cut_eq {a n : Int} (h : 0 ≤ n) : cut a 0 n = max 0 (min a n) := by unfold cut; split <;> (try split) <;> omega
theorem cut_cutN (n : Int) : cut n 0 10000 = ((cutN n : Nat) : Int) := by unfold cut cutN; split <;> (try split) <;> omega
theorem kp_init (f : Fo) : Kp f (List.replicate f.nodes.length (-1)) := ⟨by simp, fun j x hx => by
  rw [List.getElem?_replicate] at hx
  split at hx
  · exact .inl (Option.some.inj hx).symm
  · cases hx⟩

set_option maxHeartbeats 4000000 in
theorem rall_calls {f : Fo} (hf : FoOk f) (hrg : FoRng f) (hlim : FForm f → Lim f f.root.toNat) (hb : FForm f → ((trL f f.root.toNat).length : Int) < great) (n : Int) (M : List Ob) :
    ACalls Try.prog 26 [foA f, .int .i64 n] M (fun r M' => (FForm f ∧ r = .tup [.psl ((trL f f.root.toNat).take (cutN n)).length (encs trC ((trL f f.root.toNat).take (cutN n))), .bool (decide ((trL f f.root.toNat).length ≤ cutN n))] ∨ ¬ FForm f ∧ r = .tup [.nils, .bool false]) ∧ M' = M) := by
  obtain ⟨hf1, hf2⟩ := id hf
  have hgr : great = 4611686018427387903 := rfl
  refine acalls_of_code 44 Try.func26 rfl rfl rfl ?_
  repeat (first | refine acode_seq ?_ | refine acode_region ?_)
  refine aops_boxf rfl rfl rfl rfl rfl rfl rfl ?_
  repeat (first | refine aops_end ?_ | refine aops_p tok rfl rfl rfl rfl ?_ | refine acode_seq ?_ | refine acode_region ?_)
  refine aops_callx Try.func47 rfl rfl rfl rfl (cut_calls _) rfl rfl rfl ?_
  rw [cut_cutN]
  have hcl := cutN_le n
  generalize cutN n = c at *
  repeat (first | refine aops_end ?_ | refine aops_p tok rfl rfl rfl rfl ?_ | refine acode_seq ?_ | refine acode_region ?_)
  refine aops_call Try.func16 rfl rfl rfl rfl (rtrees_calls hf M) rfl rfl ?_
  rintro x M' ⟨hx, hM⟩
  obtain rfl : M = M' := hM.symm
  rcases hx with ⟨h, rfl⟩ | ⟨h, rfl⟩
  · obtain ⟨⟨h0, h1⟩, hw⟩ := id h
    have hrl : f.root.toNat < f.nodes.length := by omega
    have hb := hb h
    have hte := trees_exact (hw _ hrl) hb
    rw [hte]
    rw [show decide (((trL f f.root.toNat).length : Int) < great) = true from decide_eq_true hb]
    have hrt : (f.root.toNat : Int) = f.root := by omega
    have hnc := fun b bs M => rnth_calls hf hrg hw b bs (hw _ hrl) (hlim h) M hb
    unfold RNthC at hnc
    rw [hrt] at hnc
    generalize hts : trL f f.root.toNat = ts at *
    repeat' (first | refine aops_put rfl ?_ | refine aops_end ?_ | refine aops_p tok rfl rfl rfl rfl ?_ | refine acode_if rfl ?_ | refine acode_seq ?_ | refine acode_region ?_ | refine acode_skip ?_ | refine then_n ?_)
    refine aops_call Try.func40 rfl rfl rfl rfl (counts_calls hf M) rfl rfl ?_
    rintro x M' ⟨z, rfl, rfl⟩
    generalize z.headD 0 = b
    generalize z.getD 1 0 = bs
    have hks := kp_init f
    generalize List.replicate f.nodes.length (-1 : Int) = ks at *
    refine aops_put rfl ?_
    repeat (refine aops_p tok rfl rfl rfl rfl ?_)
    refine aops_end ?_
    refine acode_seq ?_
    refine acode_region ?_
    repeat (refine aops_p tok rfl rfl rfl rfl ?_)
    refine aops_adopt 9 3 rfl ?_
    refine aops_end ?_
    refine acode_perm (wkC f b bs ks (⟨none, 0 * 3, []⟩ :: M)) perm3.symm ?_
    refine acode_seq ?_
    refine acode_seq ?_
    refine acode_region ?_
    repeat (refine aops_p tok rfl rfl rfl rfl ?_)
    refine aops_end ?_
    refine acode_joinI (ι := Option Nat × Nat × List Int) (fun q => [(1, .int .i64 (c : Nat)), (6, .int .i64 (ts.length : Nat)), (9, .own q.1 (ts.take c).length q.2.1)]) (fun q => wkC f b bs q.2.2 (⟨q.1, q.2.1 * 3, encs trC (ts.take c)⟩ :: M)) (fun _ => True) ?_ ?_
    · refine acode_block ?_
      refine acode_loopS (ι := Nat × Option Nat × Nat × List Int) (fun q => [(1, .int .i64 (c : Nat)), (2, .pp (foC f)), (6, .int .i64 (ts.length : Nat)), (8, .ref b 0), (9, .own q.2.1 q.1 q.2.2.1), (10, .int .i64 q.1)]) (fun q => wkC f b bs q.2.2.2 (⟨q.2.1, q.2.2.1 * 3, encs trC (ts.take q.1)⟩ :: M)) (fun q => min c ts.length - q.1) (fun q => q.1 ≤ min c ts.length ∧ Kp f q.2.2.2) (0, none, 0, ks) ⟨Nat.zero_le _, hks⟩ ⟨rfl, rfl, rfl, rfl, rfl, rfl, trivial⟩ rfl ?_
      clear hks ks
      rintro ⟨q, ob, cap, ks⟩ ⟨hq, hks⟩
      simp only at hq hks ⊢
      have fin : q = min c ts.length → ts.take q = ts.take c ∧ q = (ts.take c).length := fun h => by
        subst h
        exact ⟨by rw [List.take_eq_take_iff]; omega, by rw [List.length_take]⟩
      repeat' (first | refine aops_end ?_ | refine aops_o rfl rfl rfl ?_ | (refine aops_pd tok rfl rfl rfl rfl ?_ ?_ <;> intro e_) | refine aops_p tok rfl rfl rfl rfl ?_ | refine acode_it rfl ?_ | refine acode_if rfl ?_ | refine acode_seq ?_ | refine acode_region ?_ | refine acode_block ?_ | refine acode_skip ?_ | refine then_n ?_)
      · have hqt : q < ts.length := by omega
        obtain ⟨t, ht⟩ : ∃ t, ts[q]? = some t := ⟨ts[q], List.getElem?_eq_getElem hqt⟩
        refine aops_call Try.func60 rfl rfl rfl rfl (hnc b bs _ ks hks q hqt) rfl rfl ?_
        rintro x M' ⟨t', h1', rfl, ks', hks', rfl⟩
        obtain rfl : t = t' := Option.some.inj (ht.symm.trans h1')
        refine aops_put rfl ?_
        refine aops_litn tok rfl rfl rfl rfl rfl rfl rfl ?_
        refine aops_append tok 2 (m := 1) (ds := trC t) rfl rfl rfl (.inl (by rw [trC_eq]; rfl)) rfl rfl (by rw [encs_len trC_len, List.length_take, Nat.min_eq_left (by omega)]) (by rw [trC_len]; rfl) (by rw [trC_eq]; rfl) rfl (by show _ * 40 ≤ _; omega) (by omega) rfl rfl fun ob' cap' => ?_
        repeat (first | refine aops_put rfl ?_ | refine aops_end ?_ | refine aops_endb ?_ | refine aops_a tok rfl (by omega) (by omega) rfl rfl rfl ?_ | refine aops_p tok rfl rfl rfl rfl ?_ | refine acode_region ?_ | refine then_n ?_)
        refine ⟨(q + 1, ob', cap', ks'), ⟨by simp only; omega, hks'⟩, by simp only; omega, ⟨rfl, rfl, rfl, rfl, rfl, rfl, trivial⟩, ?_⟩
        simp only [List.take_add_one, ht, encs_app]
        simp [encs]
      · obtain ⟨e1, e2⟩ := fin (by omega)
        refine acode_exit ?_
        repeat (first | refine exit_then ?_ | refine exit_here ?_ | refine then_n ?_)
        exact ⟨(ob, cap, ks), trivial, ⟨rfl, rfl, by rw [e2]; rfl, trivial⟩, by rw [e1]⟩
      · obtain ⟨e1, e2⟩ := fin (by omega)
        refine acode_exit ?_
        repeat (first | refine exit_then ?_ | refine exit_here ?_ | refine then_n ?_)
        exact ⟨(ob, cap, ks), trivial, ⟨rfl, rfl, by rw [e2]; rfl, trivial⟩, by rw [e1]⟩
    · rintro ⟨ob, cap, ks'⟩ -
      simp only
      refine acode_perm (⟨ob, cap * 3, encs trC (ts.take c)⟩ :: wkC f b bs ks' M) perm3 ?_
      refine acode_pub0 9 3 rfl rfl (by rw [encs_len trC_len]) rfl ?_
      refine acode_drop0 (acode_drop0 ?_)
      repeat (first | refine aops_end ?_ | refine aops_p tok rfl rfl rfl rfl ?_ | refine acode_seq ?_ | refine acode_region ?_)
      refine acode_ret ?_
      skip
      refine ⟨_, ⟨.inl ⟨h, rfl⟩, rfl⟩, _, _, rfl, resOf_tmp rfl, resOf_tmp ?_⟩
      show A.bool (decide ((ts.length : Int) ≤ c)) = A.bool (decide (ts.length ≤ c))
      rw [decide_eq_decide.2 Int.ofNat_le]
  · repeat' (first | refine aops_put rfl ?_ | refine aops_end ?_ | refine aops_p tok rfl rfl rfl rfl ?_ | refine acode_it rfl ?_ | refine acode_seq ?_ | refine acode_region ?_)
    refine acode_ret ?_
    repeat (refine ret_then ?_)
    exact ⟨_, ⟨.inr ⟨h, rfl⟩, rfl⟩, _, _, rfl, resOf_tmp rfl, resOf_tmp rfl⟩

/-- No tree. -/
abbrev noT : A := .agg [.int .i64 0, .int .i64 0, .nils]
/-- Whether there is a tree of a number. -/
def Here (f : Fo) (n : Int) : Prop := FForm f ∧ 0 ≤ n ∧ n < (trL f f.root.toNat).length
def NthR (f : Fo) (n : Int) (M : List Ob) (r : A) (M' : List Ob) : Prop := ((∃ t, Here f n ∧ (trL f f.root.toNat)[n.toNat]? = some t ∧ r = .tup [trA t, .bool true]) ∨ (¬ Here f n ∧ r = .tup [noT, .bool false])) ∧ M' = M

set_option maxHeartbeats 4000000 in
theorem rnthf_calls {f : Fo} (hf : FoOk f) (hrg : FoRng f) (hlim : FForm f → Lim f f.root.toNat) (hb : FForm f → ((trL f f.root.toNat).length : Int) < great) (n : Int) (M : List Ob) :
    ACalls Try.prog 35 [foA f, .int .i64 n] M (NthR f n M) := by
  obtain ⟨hf1, hf2⟩ := id hf
  have hgr : great = 4611686018427387903 := rfl
  refine acalls_of_code 31 Try.func35 rfl rfl rfl ?_
  repeat (first | refine acode_seq ?_ | refine acode_region ?_)
  refine aops_boxf rfl rfl rfl rfl rfl rfl rfl ?_
  refine aops_alloc tok rfl rfl rfl rfl rfl rfl fun br => ?_
  repeat (first | refine aops_end ?_ | refine aops_p tok rfl rfl rfl rfl ?_ | refine acode_seq ?_ | refine acode_region ?_)
  refine aops_call Try.func16 rfl rfl rfl rfl (rtrees_calls hf _) rfl rfl ?_
  rintro x M' ⟨hx, rfl⟩
  have out : ∀ (E : Env) (Q : Exit → St → Prop), ¬ Here f n → True := fun _ _ _ => trivial
  rcases hx with ⟨h, rfl⟩ | ⟨h, rfl⟩
  · obtain ⟨⟨h0, h1⟩, hw⟩ := id h
    have hrl : f.root.toNat < f.nodes.length := by omega
    have hb := hb h
    have hte := trees_exact (hw _ hrl) hb
    rw [hte]
    rw [show decide (((trL f f.root.toNat).length : Int) < great) = true from decide_eq_true hb]
    have hrt : (f.root.toNat : Int) = f.root := by omega
    have hnc := fun b bs M => rnth_calls hf hrg hw b bs (hw _ hrl) (hlim h) M hb
    unfold RNthC at hnc
    rw [hrt] at hnc
    repeat' (first | refine aops_put rfl ?_ | refine aops_end ?_ | refine aops_o rfl rfl rfl ?_ | (refine aops_pd tok rfl rfl rfl rfl ?_ ?_ <;> intro e_) | refine aops_p tok rfl rfl rfl rfl ?_ | refine acode_it rfl ?_ | refine acode_if rfl ?_ | refine aops_stn tok rfl rfl rfl rfl rfl rfl rfl rfl rfl ?_ | refine acode_seq ?_ | refine acode_region ?_ | refine acode_skip ?_ | refine then_n ?_)
    · refine acode_pubref0 4 rfl (acode_ret ?_)
      repeat (refine ret_then ?_)
      exact ⟨_, ⟨.inr ⟨fun hh => by have := hh.2.1; omega, rfl⟩, rfl⟩, _, _, rfl, resOf_pp tok rfl rfl rfl, resOf_tmp rfl⟩
    · refine acode_pubref0 4 rfl (acode_ret ?_)
      repeat (refine ret_then ?_)
      exact ⟨_, ⟨.inr ⟨fun hh => by have := hh.2.2; omega, rfl⟩, rfl⟩, _, _, rfl, resOf_pp tok rfl rfl rfl, resOf_tmp rfl⟩
    · obtain ⟨n', rfl⟩ : ∃ n' : Nat, n = n' := ⟨n.toNat, by omega⟩
      have hn' : n' < (trL f f.root.toNat).length := by omega
      have hks := kp_init f
      refine acode_drawP [] 5 [0, 2, 3, 4, 1] [4] mixed (by kernel_rfl) (by kernel_rfl) rfl ?_
      repeat (refine seqO_p tok rfl rfl rfl rfl rfl ?_)
      refine seqO_callw (fun z => .ref (z.headD 0) 0) (fun z => wkC f (z.headD 0) (z.getD 1 0) (List.replicate f.nodes.length (-1)) (⟨some br, 3, zeroT⟩ :: M)) rfl Try.func40 rfl rfl rfl rfl (counts_calls hf _) (by simp) rfl rfl rfl fun z => ?_
      generalize z.headD 0 = b
      generalize z.getD 1 0 = bs
      generalize List.replicate f.nodes.length (-1 : Int) = ks at *
      skip
      refine SeqO.done ?_
      refine aops_call Try.func60 rfl rfl rfl rfl (hnc b bs _ ks hks n' hn') rfl rfl ?_
      rintro x M' ⟨t, h1', rfl, ks', hks', rfl⟩
      refine aops_put rfl ?_
      refine aops_stk tok 2 [.int .i64 t.rule, .int .i64 t.tok, .psl t.kids.length (encs trC t.kids)] _ rfl rfl rfl rfl rfl rfl (show 0 + 3 ≤ 3 from by decide) rfl rfl rfl rfl ?_
      repeat (refine aops_p tok rfl rfl rfl rfl ?_)
      refine aops_end ?_
      refine acode_drop0 (acode_drop0 ?_)
      refine acode_pubref0 4 rfl (acode_ret ?_)
      skip
      exact ⟨_, ⟨.inl ⟨t, ⟨h, by omega, by omega⟩, by rw [Int.toNat_natCast]; exact h1', rfl⟩, rfl⟩, _, _, rfl, resOf_pp tok rfl rfl rfl, resOf_tmp rfl⟩
  · repeat' (first | refine aops_put rfl ?_ | refine aops_end ?_ | refine aops_o rfl rfl rfl ?_ | refine aops_p tok rfl rfl rfl rfl ?_ | refine acode_it rfl ?_ | refine aops_stn tok rfl rfl rfl rfl rfl rfl rfl rfl rfl ?_ | refine acode_seq ?_ | refine acode_region ?_)
    refine acode_pubref0 4 rfl (acode_ret ?_)
    repeat (refine ret_then ?_)
    exact ⟨_, ⟨.inr ⟨fun hh => h hh.1, rfl⟩, rfl⟩, _, _, rfl, resOf_pp tok rfl rfl rfl, resOf_tmp rfl⟩

set_option maxHeartbeats 4000000 in
theorem unthf_calls {f : Fo} (hf : FoOk f) (hrg : FoRng f) (hlim : FForm f → Lim f f.root.toNat) (hb : FForm f → ((trL f f.root.toNat).length : Int) < great) (n : Int) (M : List Ob) :
    ACalls Try.prog 34 [foA f, .int .i64 n] M (NthR f n M) := by
  obtain ⟨hf1, hf2⟩ := id hf
  have hgr : great = 4611686018427387903 := rfl
  refine acalls_of_code 48 Try.func34 rfl rfl rfl ?_
  repeat (first | refine acode_seq ?_ | refine acode_region ?_)
  refine aops_boxf rfl rfl rfl rfl rfl rfl rfl ?_
  refine aops_alloc tok rfl rfl rfl rfl rfl rfl fun br => ?_
  repeat (first | refine aops_end ?_ | refine aops_p tok rfl rfl rfl rfl ?_ | refine acode_seq ?_ | refine acode_region ?_)
  refine aops_call Try.func62 rfl rfl rfl rfl (ubegin_calls hf _) rfl rfl ?_
  rintro x M' ⟨hx, rfl⟩
  rcases hx with ⟨h, rfl⟩ | ⟨h, rfl⟩
  · obtain ⟨⟨h0, h1⟩, hw⟩ := id h
    have hrl : f.root.toNat < f.nodes.length := by omega
    have hb := hb h
    have hte := trees_exact (hw _ hrl) hb
    have hget := range_get (trees f) hrl
    rw [hte] at hget
    have hrt : (f.root.toNat : Int) = f.root := by omega
    have hnc := fun M => unode_calls hf hrg hw (hw _ hrl) (hlim h) M hb
    unfold NodeC at hnc
    rw [hrt] at hnc
    generalize hts : trL f f.root.toNat = ts at *
    refine aops_put rfl ?_
    repeat (refine aops_p tok rfl rfl rfl rfl ?_)
    refine aops_end ?_
    refine acode_seq ?_
    refine acode_seq ?_
    refine acode_drawT 29 mixed (by kernel_rfl) (by kernel_rfl) ?_
    repeat (refine seqT_p tok rfl rfl rfl rfl ?_)
    refine seqT_ix tok [A.int .i64 (ts.length : Nat)] rfl rfl rfl rfl h0 h1 (by simp) (ints_at hget) rfl rfl rfl ?_
    repeat (refine seqT_p tok rfl rfl rfl rfl ?_)
    rw [show decide ((ts.length : Int) ≥ 4611686018427387903) = false from decide_eq_false (by omega)]
    repeat' (first | refine seqT_o rfl rfl rfl ?_ | (refine seqT_pd tok rfl rfl rfl rfl ?_ ?_ <;> intro e_) | refine seqT_p tok rfl rfl rfl rfl ?_)
    · refine SeqT.done ?_
      repeat' (first | refine aops_end ?_ | refine aops_p tok rfl rfl rfl rfl ?_ | refine acode_it rfl ?_ | refine aops_stn tok rfl rfl rfl rfl rfl rfl rfl rfl rfl ?_ | refine acode_seq ?_ | refine acode_region ?_)
      refine acode_pubref0 4 rfl (acode_ret ?_)
      repeat (refine ret_then ?_)
      exact ⟨_, ⟨.inr ⟨fun hh => by have := hh.2.1; omega, rfl⟩, rfl⟩, _, _, rfl, resOf_pp tok rfl rfl rfl, resOf_tmp rfl⟩
    · refine seqT_ix tok [A.int .i64 (ts.length : Nat)] rfl rfl rfl rfl h0 h1 (by simp) (ints_at hget) rfl rfl rfl ?_
      repeat' (first | (refine seqT_pd tok rfl rfl rfl rfl ?_ ?_ <;> intro e_) | refine seqT_p tok rfl rfl rfl rfl ?_)
      · refine SeqT.done ?_
        repeat' (first | refine aops_end ?_ | refine aops_p tok rfl rfl rfl rfl ?_ | refine acode_it rfl ?_ | refine aops_stn tok rfl rfl rfl rfl rfl rfl rfl rfl rfl ?_ | refine acode_seq ?_ | refine acode_region ?_)
        refine acode_pubref0 4 rfl (acode_ret ?_)
        repeat (refine ret_then ?_)
        exact ⟨_, ⟨.inr ⟨fun hh => by have := hh.2.2; rw [hts] at this; omega, rfl⟩, rfl⟩, _, _, rfl, resOf_pp tok rfl rfl rfl, resOf_tmp rfl⟩
      · obtain ⟨n', rfl⟩ : ∃ n' : Nat, n = n' := ⟨n.toNat, by omega⟩
        have hn' : n' < ts.length := by omega
        refine SeqT.done ?_
        repeat' (first | refine aops_end ?_ | refine aops_p tok rfl rfl rfl rfl ?_ | refine acode_if rfl ?_ | refine acode_seq ?_ | refine acode_region ?_ | refine acode_skip ?_ | refine then_n ?_)
        refine aops_call Try.func63 rfl rfl rfl rfl (hnc _ n' hn') rfl rfl ?_
        rintro x M' ⟨t, h1', rfl, rfl⟩
        refine aops_put rfl ?_
        refine aops_stn tok rfl rfl rfl rfl rfl rfl rfl rfl rfl ?_
        repeat (refine aops_p tok rfl rfl rfl rfl ?_)
        refine aops_end ?_
        refine acode_pubref0 4 rfl (acode_ret ?_)
        skip
        exact ⟨_, ⟨.inl ⟨t, ⟨h, by omega, by rw [hts]; omega⟩, by rw [hts, Int.toNat_natCast]; exact h1', rfl⟩, rfl⟩, _, _, rfl, resOf_pp tok rfl rfl rfl, resOf_tmp rfl⟩
  · refine aops_put rfl ?_
    repeat (refine aops_p tok rfl rfl rfl rfl ?_)
    refine aops_end ?_
    refine acode_seq ?_
    refine acode_seq ?_
    refine acode_drawT 29 mixed (by kernel_rfl) (by kernel_rfl) ?_
    repeat (first | refine seqT_o rfl rfl rfl ?_ | refine seqT_p tok rfl rfl rfl rfl ?_)
    refine SeqT.done ?_
    repeat' (first | refine aops_end ?_ | refine aops_p tok rfl rfl rfl rfl ?_ | refine acode_it rfl ?_ | refine aops_stn tok rfl rfl rfl rfl rfl rfl rfl rfl rfl ?_ | refine acode_seq ?_ | refine acode_region ?_)
    refine acode_pubref0 4 rfl (acode_ret ?_)
    repeat (refine ret_then ?_)
    exact ⟨_, ⟨.inr ⟨fun hh => h hh.1, rfl⟩, rfl⟩, _, _, rfl, resOf_pp tok rfl rfl rfl, resOf_tmp rfl⟩
end Go.Proofs.Ytnlmfhnjjblhoaa.Ab
/- Trees held against each other, and their tokens, in plain terms. No condition. -/
set_option linter.unusedVariables false
set_option linter.unusedSimpArgs false
namespace Go.Proofs.Ytnlmfhnjjblhoaa.Ab
mutual
def eqT : Tr → Tr → Bool
  | .mk r t ks, .mk r' t' ks' => decide (r = r') && decide (t = t') && eqTs ks ks'
def eqTs : List Tr → List Tr → Bool
  | [], [] => true
  | x :: l, y :: m => eqT x y && eqTs l m
  | [], _ :: _ => false
  | _ :: _, [] => false
end
mutual
theorem eqT_iff : ∀ x y : Tr, eqT x y = true ↔ x = y
  | .mk r t ks, .mk r' t' ks' => by
    have h := eqTs_iff ks ks'
    rw [eqT, Bool.and_eq_true, Bool.and_eq_true, decide_eq_true_iff, decide_eq_true_iff, h, Tr.mk.injEq, and_assoc]
theorem eqTs_iff : ∀ l m : List Tr, eqTs l m = true ↔ l = m
  | [], [] => by simp [eqTs]
  | x :: l, y :: m => by rw [eqTs, Bool.and_eq_true, eqT_iff x y, eqTs_iff l m, List.cons.injEq]
  | [], _ :: _ => by simp [eqTs]
  | _ :: _, [] => by simp [eqTs]
end
theorem eqT_self (t : Tr) : eqT t t = true := (eqT_iff t t).2 rfl
theorem eqTs_self (l : List Tr) : eqTs l l = true := (eqTs_iff l l).2 rfl
theorem eqT_eq (x y : Tr) : eqT x y = (decide (x.rule = y.rule) && decide (x.tok = y.tok) && eqTs x.kids y.kids) := by cases x; cases y; rw [eqT]; rfl
theorem eqTs_len {l m : List Tr} (h : l.length ≠ m.length) : eqTs l m = false := by
  cases he : eqTs l m with
  | false => rfl
  | true => exact absurd (congrArg List.length ((eqTs_iff l m).1 he)) h
theorem eqTs_step {l m : List Tr} {i : Nat} {x y : Tr} (hx : l[i]? = some x) (hy : m[i]? = some y) : eqTs (l.drop i) (m.drop i) = (eqT x y && eqTs (l.drop (i + 1)) (m.drop (i + 1))) := by
  rw [drop_at hx, drop_at hy, eqTs]
mutual
def yieldF : Tr → List Int
  | .mk r t ks => if r = -1 then [t] else yieldsF ks
def yieldsF : List Tr → List Int
  | [] => []
  | t :: ts => yieldF t ++ yieldsF ts
end
theorem yieldF_eq (t : Tr) : yieldF t = if t.rule = -1 then [t.tok] else yieldsF t.kids := by cases t; rw [yieldF]; rfl
theorem yields_step {l : List Tr} {i : Nat} {x : Tr} (hx : l[i]? = some x) : yieldsF (l.drop i) = yieldF x ++ yieldsF (l.drop (i + 1)) := by rw [drop_at hx, yieldsF]
mutual
theorem yieldF_len : ∀ t : Tr, (yieldF t).length ≤ trSize t
  | .mk r t ks => by
    have := yieldsF_len ks
    rw [yieldF, trSize]
    split
    · simp
    · omega
theorem yieldsF_len : ∀ ts : List Tr, (yieldsF ts).length ≤ trsSize ts
  | [] => by simp [yieldsF, trsSize]
  | t :: ts => by
    have := yieldF_len t
    have := yieldsF_len ts
    rw [yieldsF, trsSize, List.length_append]; omega
end
end Go.Proofs.Ytnlmfhnjjblhoaa.Ab
/- Trees held against each other, and their tokens: the walk. No condition. -/
set_option linter.unusedVariables false
set_option linter.unusedSimpArgs false
namespace Go.Proofs.Ytnlmfhnjjblhoaa.Ab
attribute [local irreducible] thenA inBlockA ACode AOps put IntKind.wrap

set_option maxHeartbeats 2000000 in
theorem sameT_calls : ∀ (x : Tr), trSize x ≤ 9223372036854775807 → ∀ (y : Tr), trSize y ≤ 9223372036854775807 → ∀ (M : List Ob), ACalls Try.prog 33 [trA x, trA y] M (fun r M' => r = .bool (eqT x y) ∧ M' = M) := by
  refine Tr.ind fun x ih hx y hy M => ?_
  rw [trSize_eq] at hx hy
  have hxl := trsSize_len x.kids
  have hyl := trsSize_len y.kids
  rw [eqT_eq]
  refine acalls_of_code 46 Try.func33 rfl rfl rfl ?_
  repeat (first | refine acode_seq ?_ | refine acode_region ?_)
  refine aops_boxf rfl rfl rfl rfl rfl rfl rfl ?_
  refine aops_boxf rfl rfl rfl rfl rfl rfl rfl ?_
  repeat' (first | refine aops_end ?_ | refine aops_o rfl rfl rfl ?_ | (refine aops_pn tok rfl rfl rfl rfl ?_ ?_ <;> intro e_) | refine aops_p tok rfl rfl rfl rfl ?_ | refine acode_it rfl ?_ | refine acode_if rfl ?_ | refine acode_seq ?_ | refine acode_region ?_ | refine acode_block ?_ | refine acode_skip ?_ | refine then_n ?_)
  · refine acode_ret ?_
    repeat (refine ret_then ?_)
    exact ⟨.bool false, ⟨by rw [decide_eq_false e_]; rfl, rfl⟩, resOf_tmp rfl⟩
  · refine acode_ret ?_
    repeat (refine ret_then ?_)
    exact ⟨.bool false, ⟨by rw [decide_eq_false e_, Bool.and_false]; rfl, rfl⟩, resOf_tmp rfl⟩
  · refine acode_ret ?_
    repeat (refine ret_then ?_)
    exact ⟨.bool false, ⟨by rw [eqTs_len (by omega), Bool.and_false], rfl⟩, resOf_tmp rfl⟩
  · rename_i e1 e2
    have hlen : x.kids.length = y.kids.length := by omega
    rw [decide_eq_true e1, decide_eq_true e2, Bool.true_and, Bool.true_and]
    refine acode_loopS (ι := Nat) (fun i => [(2, .pp [.int .i64 x.rule, .int .i64 x.tok, .psl x.kids.length (encs trC x.kids)]), (3, .pp [.int .i64 y.rule, .int .i64 y.tok, .psl y.kids.length (encs trC y.kids)]), (5, .int .i64 i)]) (fun _ => M) (fun i => x.kids.length - i) (fun i => i ≤ x.kids.length ∧ eqTs (x.kids.drop i) (y.kids.drop i) = eqTs x.kids y.kids) 0 ⟨Nat.zero_le _, rfl⟩ ⟨rfl, rfl, rfl, trivial⟩ rfl ?_
    rintro i ⟨hi, hgo⟩
    repeat (first | refine aops_end ?_ | refine aops_p tok rfl rfl rfl rfl ?_ | refine acode_seq ?_ | refine acode_region ?_)
    refine acode_id rfl (fun e => ?_) (fun e => ?_)
    · have hil : i < x.kids.length := by omega
      obtain ⟨u, hu⟩ : ∃ u, x.kids[i]? = some u := ⟨x.kids[i], List.getElem?_eq_getElem hil⟩
      obtain ⟨v, hv⟩ : ∃ v, y.kids[i]? = some v := ⟨y.kids[i]'(by omega), List.getElem?_eq_getElem (by omega)⟩
      have hum := List.mem_of_getElem? hu
      have hus := trsSize_mem hum
      have hvs := trsSize_mem (List.mem_of_getElem? hv)
      rw [eqTs_step hu hv] at hgo
      repeat (first | refine acode_seq ?_ | refine acode_block ?_ | refine acode_skip ?_ | refine then_n ?_)
      refine acode_drawT 12 mixed (by kernel_rfl) (by kernel_rfl) ?_
      repeat (refine seqT_p tok rfl rfl rfl rfl ?_)
      refine seqT_ix tok [.int .i64 u.rule, .int .i64 u.tok, .psl u.kids.length (encs trC u.kids)] rfl rfl rfl rfl (by omega) (by omega) (by simp) (by rw [← trC_eq]; exact tr_at hu) rfl rfl rfl ?_
      repeat (refine seqT_p tok rfl rfl rfl rfl ?_)
      refine seqT_ix tok [.int .i64 v.rule, .int .i64 v.tok, .psl v.kids.length (encs trC v.kids)] rfl rfl rfl rfl (by omega) (by omega) (by simp) (by rw [← trC_eq]; exact tr_at hv) rfl rfl rfl ?_
      repeat (refine seqT_p tok rfl rfl rfl rfl ?_)
      refine seqT_call _ Try.func33 rfl rfl rfl rfl (ih u hum (by omega) v (by omega) M) rfl rfl rfl ?_
      cases he : eqT u v with
      | false =>
        rw [he] at hgo
        repeat (refine seqT_p tok rfl rfl rfl rfl ?_)
        refine SeqT.done ?_
        repeat' (first | refine aops_end ?_ | refine aops_p tok rfl rfl rfl rfl ?_ | refine acode_it rfl ?_ | refine acode_seq ?_ | refine acode_region ?_)
        refine acode_ret ?_
        repeat (first | refine ret_then ?_ | refine ret_block ?_)
        exact ⟨.bool false, ⟨by rw [← hgo]; rfl, rfl⟩, resOf_tmp rfl⟩
      | true =>
        rw [he] at hgo
        repeat (refine seqT_p tok rfl rfl rfl rfl ?_)
        refine SeqT.done ?_
        repeat' (first | refine aops_end ?_ | refine aops_a tok rfl (by omega) (by omega) rfl rfl rfl ?_ | refine aops_p tok rfl rfl rfl rfl ?_ | refine acode_if rfl ?_ | refine acode_region ?_ | refine acode_skip ?_ | refine then_n ?_ | refine block_n ?_)
        exact ⟨i + 1, ⟨by omega, by rw [← hgo]; rfl⟩, by omega, ⟨rfl, rfl, rfl, trivial⟩, rfl⟩
    · have hge : i = x.kids.length := by omega
      subst hge
      rw [List.drop_length, hlen, List.drop_length] at hgo
      refine acode_exit ?_
      repeat (first | refine exit_then ?_ | refine exit_here ?_ | refine then_n ?_)
      repeat (first | refine aops_end ?_ | refine aops_p tok rfl rfl rfl rfl ?_ | refine acode_seq ?_ | refine acode_region ?_)
      refine acode_ret ?_
      skip
      exact ⟨.bool true, ⟨by rw [← hgo]; rfl, rfl⟩, resOf_tmp rfl⟩

set_option maxHeartbeats 2000000 in
theorem sameTs_calls {l m : List Tr} {n : Nat} (hn : n ≤ 9223372036854775807) (hl : l.length ≤ n) (hm : m.length ≤ n) (hls : ∀ t ∈ l, trSize t ≤ 9223372036854775807) (hms : ∀ t ∈ m, trSize t ≤ 9223372036854775807) (M : List Ob) : ACalls Try.prog 36 [.psl l.length (encs trC l), .psl m.length (encs trC m)] M (fun r M' => r = .bool (eqTs l m) ∧ M' = M) := by
  refine acalls_of_code 27 Try.func36 rfl rfl rfl ?_
  repeat' (first | refine aops_end ?_ | (refine aops_pn tok rfl rfl rfl rfl ?_ ?_ <;> intro e_) | refine aops_p tok rfl rfl rfl rfl ?_ | refine acode_it rfl ?_ | refine acode_if rfl ?_ | refine acode_seq ?_ | refine acode_region ?_ | refine acode_block ?_ | refine acode_skip ?_ | refine then_n ?_)
  · refine acode_ret ?_
    repeat (refine ret_then ?_)
    exact ⟨.bool false, ⟨by rw [eqTs_len (by omega)], rfl⟩, resOf_tmp rfl⟩
  · have hlen : l.length = m.length := by omega
    refine acode_loopS (ι := Nat) (fun i => [(0, .psl l.length (encs trC l)), (1, .psl m.length (encs trC m)), (5, .int .i64 i)]) (fun _ => M) (fun i => l.length - i) (fun i => i ≤ l.length ∧ eqTs (l.drop i) (m.drop i) = eqTs l m) 0 ⟨Nat.zero_le _, rfl⟩ ⟨rfl, rfl, rfl, trivial⟩ rfl ?_
    rintro i ⟨hi, hgo⟩
    repeat (first | refine aops_end ?_ | refine aops_p tok rfl rfl rfl rfl ?_ | refine acode_seq ?_ | refine acode_region ?_)
    refine acode_id rfl (fun e => ?_) (fun e => ?_)
    · have hil : i < l.length := by omega
      obtain ⟨u, hu⟩ : ∃ u, l[i]? = some u := ⟨l[i], List.getElem?_eq_getElem hil⟩
      obtain ⟨v, hv⟩ : ∃ v, m[i]? = some v := ⟨m[i]'(by omega), List.getElem?_eq_getElem (by omega)⟩
      rw [eqTs_step hu hv] at hgo
      repeat (first | refine acode_seq ?_ | refine acode_block ?_ | refine acode_skip ?_ | refine then_n ?_)
      refine acode_drawT 10 mixed (by kernel_rfl) (by kernel_rfl) ?_
      repeat (refine seqT_p tok rfl rfl rfl rfl ?_)
      refine seqT_ix tok [.int .i64 u.rule, .int .i64 u.tok, .psl u.kids.length (encs trC u.kids)] rfl rfl rfl rfl (by omega) (by omega) (by simp) (by rw [← trC_eq]; exact tr_at hu) rfl rfl rfl ?_
      repeat (refine seqT_p tok rfl rfl rfl rfl ?_)
      refine seqT_ix tok [.int .i64 v.rule, .int .i64 v.tok, .psl v.kids.length (encs trC v.kids)] rfl rfl rfl rfl (by omega) (by omega) (by simp) (by rw [← trC_eq]; exact tr_at hv) rfl rfl rfl ?_
      repeat (refine seqT_p tok rfl rfl rfl rfl ?_)
      refine seqT_call _ Try.func33 rfl rfl rfl rfl (sameT_calls u (hls u (List.mem_of_getElem? hu)) v (hms v (List.mem_of_getElem? hv)) M) rfl rfl rfl ?_
      cases he : eqT u v with
      | false =>
        rw [he] at hgo
        repeat (refine seqT_p tok rfl rfl rfl rfl ?_)
        refine SeqT.done ?_
        repeat' (first | refine aops_end ?_ | refine aops_p tok rfl rfl rfl rfl ?_ | refine acode_it rfl ?_ | refine acode_seq ?_ | refine acode_region ?_)
        refine acode_ret ?_
        repeat (first | refine ret_then ?_ | refine ret_block ?_)
        exact ⟨.bool false, ⟨by rw [← hgo]; rfl, rfl⟩, resOf_tmp rfl⟩
      | true =>
        rw [he] at hgo
        repeat (refine seqT_p tok rfl rfl rfl rfl ?_)
        refine SeqT.done ?_
        repeat' (first | refine aops_end ?_ | refine aops_a tok rfl (by omega) (by omega) rfl rfl rfl ?_ | refine aops_p tok rfl rfl rfl rfl ?_ | refine acode_if rfl ?_ | refine acode_region ?_ | refine acode_skip ?_ | refine then_n ?_ | refine block_n ?_)
        exact ⟨i + 1, ⟨by omega, by rw [← hgo]; rfl⟩, by omega, ⟨rfl, rfl, rfl, trivial⟩, rfl⟩
    · have hge : i = l.length := by omega
      subst hge
      rw [List.drop_length, hlen, List.drop_length] at hgo
      refine acode_exit ?_
      repeat (first | refine exit_then ?_ | refine exit_here ?_ | refine then_n ?_)
      repeat (first | refine aops_end ?_ | refine aops_p tok rfl rfl rfl rfl ?_ | refine acode_seq ?_ | refine acode_region ?_)
      refine acode_ret ?_
      skip
      exact ⟨.bool true, ⟨by rw [← hgo]; rfl, rfl⟩, resOf_tmp rfl⟩

/-! ### tokens -/
set_option maxHeartbeats 2000000 in
theorem uyield0_calls : ∀ (t : Tr) (l : List Int), trSize t + l.length ≤ 1000000000 → ∀ (ob : Option Nat) (cap : Nat) (M : List Ob), ACalls Try.prog 64 [.own ob l.length cap, trA t] (⟨ob, cap * 1, ints l⟩ :: M) (fun r M' => ∃ ob' cap', r = .own ob' (l ++ yieldF t).length cap' ∧ M' = ⟨ob', cap' * 1, ints (l ++ yieldF t)⟩ :: M) := by
  refine Tr.ind fun t ih l hsz ob cap M => ?_
  rw [trSize_eq] at hsz
  have hkl := trsSize_len t.kids
  rw [yieldF_eq]
  refine acalls_of_code 27 Try.func64 rfl rfl rfl ?_
  repeat (first | refine acode_seq ?_ | refine acode_region ?_)
  refine aops_boxf rfl rfl rfl rfl rfl rfl rfl ?_
  repeat' (first | refine aops_end ?_ | (refine aops_pd tok rfl rfl rfl rfl ?_ ?_ <;> intro e_) | refine aops_p tok rfl rfl rfl rfl ?_ | refine acode_it rfl ?_ | refine acode_if rfl ?_ | refine acode_seq ?_ | refine acode_region ?_ | refine acode_block ?_ | refine acode_skip ?_ | refine then_n ?_)
  · rw [if_pos e_]
    refine aops_litn tok rfl rfl rfl rfl rfl rfl rfl ?_
    refine aops_append tok 0 (m := 1) (ds := ints [t.tok]) rfl rfl rfl (.inl rfl) rfl rfl (by rw [ints_len]; exact (Nat.mul_one _).symm) rfl rfl rfl (by show _ * 8 ≤ _; omega) (by omega) rfl rfl fun ob' cap' => ?_
    repeat (first | refine aops_put rfl ?_ | refine aops_end ?_ | refine aops_p tok rfl rfl rfl rfl ?_)
    refine acode_ret ?_
    repeat (refine ret_then ?_)
    exact ⟨_, ⟨ob', cap', rfl, by rw [ints_app]; rfl⟩, resOf_tmp (by rw [List.length_append]; rfl)⟩
  · rw [if_neg e_]
    refine acode_loopS (ι := Nat × List Int × Option Nat × Nat) (fun q => [(0, .own q.2.2.1 q.2.1.length q.2.2.2), (16, .psl t.kids.length (encs trC t.kids)), (17, .int .i64 t.kids.length), (18, .int .i64 q.1)]) (fun q => ⟨q.2.2.1, q.2.2.2 * 1, ints q.2.1⟩ :: M) (fun q => t.kids.length - q.1) (fun q => q.1 ≤ t.kids.length ∧ q.2.1 ++ yieldsF (t.kids.drop q.1) = l ++ yieldsF t.kids) (0, l, ob, cap) ⟨Nat.zero_le _, rfl⟩ ⟨rfl, rfl, rfl, rfl, trivial⟩ rfl ?_
    rintro ⟨i, l', ob, cap⟩ ⟨hi, hgo⟩
    simp only at hi hgo ⊢
    repeat (first | refine aops_end ?_ | refine aops_p tok rfl rfl rfl rfl ?_ | refine acode_seq ?_ | refine acode_region ?_)
    refine acode_id rfl (fun e => ?_) (fun e => ?_)
    · have hil : i < t.kids.length := by omega
      obtain ⟨u, hu⟩ : ∃ u, t.kids[i]? = some u := ⟨t.kids[i], List.getElem?_eq_getElem hil⟩
      have hum := List.mem_of_getElem? hu
      have hus := trsSize_mem hum
      have hl' : l'.length ≤ l.length + (yieldsF t.kids).length := by
        have := congrArg List.length hgo
        simp only [List.length_append] at this
        omega
      have hyl := yieldsF_len t.kids
      have hdr : trSize u + l'.length ≤ 1000000000 := by
        have h1 := congrArg List.length hgo
        rw [yields_step hu] at h1
        simp only [List.length_append] at h1
        have h2 : l'.length ≤ l.length + trsSize (t.kids.take i) := by
          have hsplit : yieldsF t.kids = yieldsF (t.kids.take i) ++ yieldsF (t.kids.drop i) := by
            have key : ∀ (x y : List Tr), yieldsF (x ++ y) = yieldsF x ++ yieldsF y := by
              intro x y
              induction x with
              | nil => rfl
              | cons z x ihx => simp only [List.cons_append, yieldsF, ihx, List.append_assoc]
            rw [← key, List.take_append_drop]
          have h3 := congrArg List.length hgo
          rw [hsplit] at h3
          simp only [List.length_append] at h3
          have := yieldsF_len (t.kids.take i)
          omega
        have h4 : trsSize (t.kids.take i) + trSize u ≤ trsSize t.kids := by
          have key : ∀ (x y : List Tr), trsSize (x ++ y) = trsSize x + trsSize y := by
            intro x y
            induction x with
            | nil => simp [trsSize]
            | cons z x ihx => simp only [List.cons_append, trsSize, ihx]; omega
          have := key (t.kids.take i) (t.kids.drop i)
          rw [List.take_append_drop, drop_at hu, trsSize] at this
          omega
        omega
      rw [yields_step hu, ← List.append_assoc] at hgo
      repeat (first | refine acode_seq ?_ | refine acode_region ?_ | refine acode_block ?_ | refine acode_skip ?_ | refine then_n ?_)
      refine aops_ix tok [.int .i64 u.rule, .int .i64 u.tok, .psl u.kids.length (encs trC u.kids)] rfl rfl rfl rfl (by omega) (by omega) (by simp) (by rw [← trC_eq]; exact tr_at hu) rfl rfl rfl ?_
      repeat (refine aops_p tok rfl rfl rfl rfl ?_)
      refine aops_alloc tok rfl rfl rfl rfl rfl rfl fun ba => ?_
      repeat (refine aops_stn tok rfl rfl rfl rfl rfl rfl rfl rfl rfl ?_)
      refine aops_pubref0 6 rfl ?_
      repeat (first | refine aops_end ?_ | refine aops_p tok rfl rfl rfl rfl ?_ | refine acode_region ?_)
      refine aops_call Try.func64 rfl rfl rfl rfl (ih u hum l' hdr ob cap M) rfl rfl ?_
      rintro x M' ⟨ob', cap', rfl, rfl⟩
      repeat (first | refine aops_put rfl ?_ | refine aops_end ?_ | refine aops_endb ?_ | refine aops_a tok rfl (by omega) (by omega) rfl rfl rfl ?_ | refine aops_p tok rfl rfl rfl rfl ?_ | refine acode_region ?_ | refine then_n ?_)
      exact ⟨(i + 1, l' ++ yieldF u, ob', cap'), ⟨by simp only; omega, hgo⟩, by simp only; omega, ⟨rfl, rfl, rfl, rfl, trivial⟩, rfl⟩
    · have hge : i = t.kids.length := by omega
      subst hge
      rw [List.drop_length, yieldsF, List.append_nil] at hgo
      subst hgo
      refine acode_exit ?_
      repeat (first | refine exit_then ?_ | refine exit_here ?_ | refine then_n ?_)
      repeat (first | refine aops_end ?_ | refine aops_p tok rfl rfl rfl rfl ?_ | refine acode_seq ?_ | refine acode_region ?_)
      refine acode_ret ?_
      skip
      exact ⟨_, ⟨ob, cap, rfl, rfl⟩, resOf_tmp rfl⟩
theorem uyield_calls {t : Tr} (hsz : trSize t ≤ 1000000000) (M : List Ob) : ACalls Try.prog 31 [trA t] M (fun r M' => r = .psl (yieldF t).length (ints (yieldF t)) ∧ M' = M) := by
  refine acalls_frozen (sz := 1) (by rw [ints_len, Nat.mul_one]) (by decide) ?_
  refine acalls_of_code 5 Try.func31 rfl rfl rfl ?_
  repeat (first | refine acode_seq ?_ | refine acode_region ?_)
  refine aops_boxf rfl rfl rfl rfl rfl rfl rfl ?_
  repeat (first | refine aops_end ?_ | refine aops_p tok rfl rfl rfl rfl ?_ | refine acode_seq ?_ | refine acode_region ?_)
  refine aops_call Try.func64 rfl rfl rfl rfl (acalls_nil0 (ys := [.own none 0 0, trA t]) (fun G vs h => ?_) (uyield0_calls t [] (by simpa using hsz) none 0 M)) rfl rfl ?_
  · obtain ⟨v, vs', rfl, h1, h2⟩ := h
    exact ⟨v, vs', rfl, rep_nils_own G h1, h2⟩
  rintro x M' ⟨ob', cap', rfl, rfl⟩
  rw [List.nil_append]
  repeat (first | refine aops_put rfl ?_ | refine aops_end ?_ | refine aops_p tok rfl rfl rfl rfl ?_)
  refine acode_ret ?_
  skip
  exact ⟨_, ⟨ob', cap', rfl, rfl⟩, resOf_tmp rfl⟩
end Go.Proofs.Ytnlmfhnjjblhoaa.Ab
/- Chapter 21's law of all trees: the walk. No condition. -/
set_option linter.unusedVariables false
set_option linter.unusedSimpArgs false
namespace Go.Proofs.Ytnlmfhnjjblhoaa.Ab
attribute [local irreducible] thenA inBlockA ACode AOps put IntKind.wrap

def foL : Fo := ⟨[⟨0, 0, 0, [⟨3, []⟩]⟩], 0⟩
theorem foL_wf : WF foL 0 := by
  refine .mk (by decide) (fun k hk => ?_) (fun k hk => ?_) <;> (obtain ⟨a, ha, hm⟩ := hk; simp [altsOf, foL] at ha; subst ha; simp at hm)
theorem foL_form : FForm foL := ⟨⟨by decide, by decide⟩, fun i hi => by
  have : i = 0 := by simp [foL] at hi; exact hi
  subst this; exact foL_wf⟩
theorem foL_tr : trL foL 0 = [⟨3, 0, []⟩] := by
  rw [trL_eq foL_wf]; simp [nodeL, altsOf, foL, altL, kidsL, prodL]
theorem foL_lim : Lim foL 0 := .mk (fun a ha => by simp [altsOf, foL] at ha; subst ha; simp) (fun k hk => by obtain ⟨a, ha, hm⟩ := hk; simp [altsOf, foL] at ha; subst ha; simp at hm)
theorem alive21_calls (M : List Ob) : ACalls Try.prog 29 [] M (fun r M' => r = .bool true ∧ M' = M) := by
  have hy := uyield_calls (t := ⟨-1, 4, []⟩) (by decide) M
  have ha := yes_of foL_form ((uall_calls (f := foL) ⟨by decide, by simp [foL]⟩ (by simp [FoRng, foL]) (fun _ => foL_lim) (fun _ => by rw [show foL.root.toNat = 0 from rfl, foL_tr]; decide) 5 M))
  rw [show foL.root.toNat = 0 from rfl, foL_tr, show cutN 5 = 5 from by decide] at ha
  refine acalls_of_code 39 Try.func29 rfl rfl rfl ?_
  repeat (first | refine aops_end ?_ | refine aops_p tok rfl rfl rfl rfl ?_ | refine acode_seq ?_ | refine acode_region ?_)
  refine aops_callx Try.func31 rfl rfl rfl rfl (acalls_arg (ys := [trA ⟨-1, 4, []⟩]) (.cons (.agg (.cons (.refl _) (.cons (.refl _) (.cons .nils .nil)))) .nil) hy) rfl rfl rfl ?_
  repeat (first | refine aops_end ?_ | refine aops_p tok rfl rfl rfl rfl ?_ | refine acode_seq ?_ | refine acode_region ?_)
  refine aops_litn tok rfl rfl rfl rfl rfl rfl rfl ?_
  repeat (refine aops_p tok rfl rfl rfl rfl ?_)
  refine aops_litn tok rfl rfl rfl rfl rfl rfl rfl ?_
  repeat (refine aops_p tok rfl rfl rfl rfl ?_)
  refine aops_callx Try.func30 rfl rfl rfl rfl (acalls_arg (ys := [foA foL, .int .i64 5]) (.cons (.agg (.cons (.psl (.cons (.refl _) (.cons (.refl _) (.cons (.refl _) (.cons (.psl (.cons (.refl _) (.cons .nils .nil))) .nil))))) (.cons (.refl _) .nil))) (.cons (.refl _) .nil)) ha) rfl rfl rfl ?_
  repeat (first | refine aops_end ?_ | refine aops_p tok rfl rfl rfl rfl ?_ | refine acode_seq ?_ | refine acode_region ?_)
  refine aops_ix tok [A.int .i64 4] rfl rfl rfl rfl (by decide) (by decide) (by simp) (by exact ⟨[], rfl⟩) rfl rfl rfl ?_
  repeat (refine aops_p tok rfl rfl rfl rfl ?_)
  refine aops_ix tok (trC ⟨3, 0, []⟩) rfl rfl rfl rfl (by decide) (by decide) (by simp [trC]) (by simp [encs]) rfl rfl rfl ?_
  repeat (first | refine aops_end ?_ | refine aops_p tok rfl rfl rfl rfl ?_)
  refine acode_ret ?_
  skip
  exact ⟨_, ⟨rfl, rfl⟩, resOf_tmp rfl⟩

theorem tr_len {f : Fo} (h : FForm f) (hlt : trees f f.root.toNat < great) : trees f f.root.toNat = (trL f f.root.toNat).length ∧ ((trL f f.root.toNat).length : Int) < great := by
  have hw := h.2 _ (by have := h.1; omega : f.root.toNat < f.nodes.length)
  rw [trees_sat hw] at hlt ⊢
  have := sat_of hlt
  omega
/-- What is known of a forest behind the guards. -/
def Gd (f : Fo) : Prop := FForm f → (trees f f.root.toNat < great ∧ big f f.root.toNat ≤ 2000)
set_option maxHeartbeats 16000000 in
theorem unfoldAll_calls (zs : List A) (h : GoodL T [25, 3, 3] zs) : ACalls Try.prog 10 zs [] (fun r _ => r = .bool true) := by
  obtain ⟨_, _, rfl, ⟨f1, g1⟩, _, _, rfl, ⟨f2, g2⟩, _, _, rfl, ⟨f3, g3⟩, rfl⟩ := h
  obtain ⟨f, rfl, hf, hrg⟩ := good_foR g1
  obtain ⟨most, rfl, hmw⟩ := good_int (k := .i64) rfl g2
  obtain ⟨n, rfl, hnw⟩ := good_int (k := .i64) rfl g3
  have hgr : great = 4611686018427387903 := rfl
  refine acalls_of_code 99 Try.func10 rfl rfl rfl ?_
  repeat (first | refine acode_seq ?_ | refine acode_region ?_)
  refine aops_boxf rfl rfl rfl rfl rfl rfl rfl ?_
  repeat (first | refine aops_end ?_ | refine aops_p tok rfl rfl rfl rfl ?_ | refine acode_seq ?_ | refine acode_region ?_)
  refine aops_callx Try.func29 rfl rfl rfl rfl (alive21_calls _) rfl rfl rfl ?_
  repeat (refine aops_p tok rfl rfl rfl rfl ?_)
  refine aops_end ?_
  refine acode_seq ?_
  refine acode_region ?_
  repeat (refine aops_p tok rfl rfl rfl rfl ?_)
  refine aops_call Try.func16 rfl rfl rfl rfl (rtrees_calls hf []) rfl rfl ?_
  rintro x M' ⟨hx, hM⟩
  obtain rfl := hM
  rcases hx with ⟨hF, rfl⟩ | ⟨hF, rfl⟩
  · refine aops_put rfl ?_
    repeat (refine aops_p tok rfl rfl rfl rfl ?_)
    refine aops_end ?_
    refine acode_seq ?_
    refine acode_joinI (ι := Unit) (fun _ => [(1, .int .i64 most), (2, .int .i64 n), (3, .pp (foC f))]) (fun _ => []) (fun _ => Gd f) ?_ ?_
    · repeat' (first | refine aops_end ?_ | refine aops_o rfl rfl rfl ?_ | (refine aops_pd tok rfl rfl rfl rfl ?_ ?_ <;> intro e_) | refine aops_p tok rfl rfl rfl rfl ?_ | refine acode_it rfl ?_ | refine acode_seq ?_ | refine acode_region ?_)
      all_goals try
        (refine acode_ret ?_
         repeat (refine ret_then ?_)
         exact ⟨_, rfl, resOf_tmp rfl⟩)
      refine aops_callx Try.func25 rfl rfl rfl rfl (yes_of hF (largest_calls hf [])) rfl rfl rfl ?_
      repeat' (first | refine aops_end ?_ | refine aops_o rfl rfl rfl ?_ | (refine aops_pd tok rfl rfl rfl rfl ?_ ?_ <;> intro e_) | refine aops_p tok rfl rfl rfl rfl ?_ | refine acode_it rfl ?_ | refine acode_seq ?_ | refine acode_region ?_)
      all_goals try
        (refine acode_ret ?_
         repeat (refine ret_then ?_)
         exact ⟨_, rfl, resOf_tmp rfl⟩)
      all_goals
        (refine aops_callx Try.func18 rfl rfl rfl rfl (yes_of hF (rfform_calls hf [])) rfl rfl rfl ?_
         repeat' (first | refine aops_end ?_ | (refine aops_pd tok rfl rfl rfl rfl ?_ ?_ <;> intro e_) | refine aops_p tok rfl rfl rfl rfl ?_ | refine acode_it rfl ?_ | refine acode_if rfl ?_ | refine acode_seq ?_ | refine acode_region ?_ | refine acode_skip ?_ | refine then_n ?_))
      all_goals try
        (refine acode_ret ?_
         repeat (refine ret_then ?_)
         exact ⟨_, rfl, resOf_tmp rfl⟩)
      all_goals exact ⟨(), fun _ => ⟨by omega, by omega⟩, ⟨rfl, rfl, rfl, trivial⟩, rfl⟩
    · rintro - hG
      obtain ⟨hlt, hbig⟩ := hG hF
      have hw := hF.2 _ (by have := hF.1; omega : f.root.toNat < f.nodes.length)
      obtain ⟨hte, hb⟩ := tr_len hF hlt
      have hlim := big_lim hw (by omega)
      have hsz := big_tr hw (by show _ < 1099511627776; omega)
      have hA := fun M => yes_of hF (uall_calls hf hrg (fun _ => hlim) (fun _ => hb) most M)
      have hB := fun M => yes_of hF (rall_calls hf hrg (fun _ => hlim) (fun _ => hb) most M)
      have hC := fun M => unthf_calls hf hrg (fun _ => hlim) (fun _ => hb) n M
      have hD := fun M => rnthf_calls hf hrg (fun _ => hlim) (fun _ => hb) n M
      have hsz2 : ∀ t ∈ (trL f f.root.toNat).take (cutN most), trSize t ≤ 9223372036854775807 := fun t ht => by have := hsz t (List.mem_of_mem_take ht); omega
      have hcl := cutN_le most
      have hS := fun M => sameTs_calls (l := (trL f f.root.toNat).take (cutN most)) (m := (trL f f.root.toNat).take (cutN most)) (n := 10000) (by decide) (by rw [List.length_take]; omega) (by rw [List.length_take]; omega) hsz2 hsz2 M
      rw [show eqTs _ _ = true from eqTs_self ((trL f f.root.toNat).take (cutN most))] at hS
      generalize decide ((trL f f.root.toNat).length ≤ cutN most) = bb at *
      by_cases hh : Here f n
      · obtain ⟨t, ht⟩ : ∃ t, (trL f f.root.toNat)[n.toNat]? = some t := ⟨(trL f f.root.toNat)[n.toNat]'(by have := hh.2; omega), List.getElem?_eq_getElem _⟩
        have hts := hsz t (List.mem_of_getElem? ht)
        have hC := fun M => (hC M).mono (R' := fun r M' => r = .tup [trA t, .bool true] ∧ M' = M) (by
          rintro r M' ⟨⟨t', _, h1, rfl⟩ | ⟨h1, _⟩, rfl⟩
          · rw [ht] at h1; cases h1; exact ⟨rfl, rfl⟩
          · exact absurd hh h1)
        have hD := fun M => (hD M).mono (R' := fun r M' => r = .tup [trA t, .bool true] ∧ M' = M) (by
          rintro r M' ⟨⟨t', _, h1, rfl⟩ | ⟨h1, _⟩, rfl⟩
          · rw [ht] at h1; cases h1; exact ⟨rfl, rfl⟩
          · exact absurd hh h1)
        have hT := fun M => sameT_calls t (by omega) t (by omega) M
        rw [eqT_self t] at hT
        repeat (first | refine aops_p tok rfl rfl rfl rfl ?_ | refine acode_seq ?_ | refine acode_region ?_)
        refine aops_callx Try.func30 rfl rfl rfl rfl (hA _) rfl rfl rfl ?_
        repeat (first | refine aops_end ?_ | refine aops_p tok rfl rfl rfl rfl ?_ | refine acode_seq ?_ | refine acode_region ?_)
        refine aops_callx Try.func26 rfl rfl rfl rfl (hB _) rfl rfl rfl ?_
        repeat (first | refine aops_end ?_ | refine aops_p tok rfl rfl rfl rfl ?_ | refine acode_seq ?_ | refine acode_region ?_)
        refine aops_callx Try.func34 rfl rfl rfl rfl (hC _) rfl rfl rfl ?_
        repeat (refine aops_p tok rfl rfl rfl rfl ?_)
        refine aops_alloc tok rfl rfl rfl rfl rfl rfl fun b1 => ?_
        repeat (first | refine aops_p tok rfl rfl rfl rfl ?_ | refine aops_stn tok rfl rfl rfl rfl rfl rfl rfl rfl rfl ?_)
        refine aops_pubref0 14 rfl ?_
        repeat (first | refine aops_end ?_ | refine aops_p tok rfl rfl rfl rfl ?_ | refine acode_seq ?_ | refine acode_region ?_)
        refine aops_callx Try.func35 rfl rfl rfl rfl (hD _) rfl rfl rfl ?_
        repeat (refine aops_p tok rfl rfl rfl rfl ?_)
        refine aops_alloc tok rfl rfl rfl rfl rfl rfl fun b2 => ?_
        repeat (first | refine aops_p tok rfl rfl rfl rfl ?_ | refine aops_stn tok rfl rfl rfl rfl rfl rfl rfl rfl rfl ?_)
        refine aops_pubref0 16 rfl ?_
        repeat (first | refine aops_end ?_ | refine aops_p tok rfl rfl rfl rfl ?_ | refine acode_seq ?_ | refine acode_region ?_)
        refine aops_callx Try.func36 rfl rfl rfl rfl (hS _) rfl rfl rfl ?_
        repeat (refine aops_p tok rfl rfl rfl rfl ?_)
        refine aops_eqb tok rfl rfl rfl rfl rfl rfl rfl ?_
        rw [beq_self_eq_true bb]
        repeat (refine aops_p tok rfl rfl rfl rfl ?_)
        refine aops_callx Try.func33 rfl rfl rfl rfl (hT _) rfl rfl rfl ?_
        repeat (refine aops_p tok rfl rfl rfl rfl ?_)
        refine aops_eqb tok rfl rfl rfl rfl rfl rfl rfl ?_
        repeat (first | refine aops_end ?_ | refine aops_p tok rfl rfl rfl rfl ?_)
        refine acode_ret ?_
        skip
        exact ⟨_, rfl, resOf_tmp rfl⟩
      · have hC := fun M => (hC M).mono (R' := fun r M' => r = .tup [noT, .bool false] ∧ M' = M) (by
          rintro r M' ⟨⟨t', h2, h1, rfl⟩ | ⟨h1, rfl⟩, rfl⟩
          · exact absurd h2 hh
          · exact ⟨rfl, rfl⟩)
        have hD := fun M => (hD M).mono (R' := fun r M' => r = .tup [noT, .bool false] ∧ M' = M) (by
          rintro r M' ⟨⟨t', h2, h1, rfl⟩ | ⟨h1, rfl⟩, rfl⟩
          · exact absurd h2 hh
          · exact ⟨rfl, rfl⟩)
        have hT := fun M => acalls_arg (xs := [noT, noT]) (.cons (.agg (.cons (.refl _) (.cons (.refl _) (.cons .nils .nil)))) (.cons (.agg (.cons (.refl _) (.cons (.refl _) (.cons .nils .nil)))) .nil)) (sameT_calls ⟨0, 0, []⟩ (by decide) ⟨0, 0, []⟩ (by decide) M)
        rw [eqT_self] at hT
        repeat (first | refine aops_p tok rfl rfl rfl rfl ?_ | refine acode_seq ?_ | refine acode_region ?_)
        refine aops_callx Try.func30 rfl rfl rfl rfl (hA _) rfl rfl rfl ?_
        repeat (first | refine aops_end ?_ | refine aops_p tok rfl rfl rfl rfl ?_ | refine acode_seq ?_ | refine acode_region ?_)
        refine aops_callx Try.func26 rfl rfl rfl rfl (hB _) rfl rfl rfl ?_
        repeat (first | refine aops_end ?_ | refine aops_p tok rfl rfl rfl rfl ?_ | refine acode_seq ?_ | refine acode_region ?_)
        refine aops_callx Try.func34 rfl rfl rfl rfl (hC _) rfl rfl rfl ?_
        repeat (refine aops_p tok rfl rfl rfl rfl ?_)
        refine aops_alloc tok rfl rfl rfl rfl rfl rfl fun b1 => ?_
        repeat (first | refine aops_p tok rfl rfl rfl rfl ?_ | refine aops_stn tok rfl rfl rfl rfl rfl rfl rfl rfl rfl ?_)
        refine aops_pubref0 14 rfl ?_
        repeat (first | refine aops_end ?_ | refine aops_p tok rfl rfl rfl rfl ?_ | refine acode_seq ?_ | refine acode_region ?_)
        refine aops_callx Try.func35 rfl rfl rfl rfl (hD _) rfl rfl rfl ?_
        repeat (refine aops_p tok rfl rfl rfl rfl ?_)
        refine aops_alloc tok rfl rfl rfl rfl rfl rfl fun b2 => ?_
        repeat (first | refine aops_p tok rfl rfl rfl rfl ?_ | refine aops_stn tok rfl rfl rfl rfl rfl rfl rfl rfl rfl ?_)
        refine aops_pubref0 16 rfl ?_
        repeat (first | refine aops_end ?_ | refine aops_p tok rfl rfl rfl rfl ?_ | refine acode_seq ?_ | refine acode_region ?_)
        refine aops_callx Try.func36 rfl rfl rfl rfl (hS _) rfl rfl rfl ?_
        repeat (refine aops_p tok rfl rfl rfl rfl ?_)
        refine aops_eqb tok rfl rfl rfl rfl rfl rfl rfl ?_
        rw [beq_self_eq_true bb]
        repeat (refine aops_p tok rfl rfl rfl rfl ?_)
        refine aops_callx Try.func33 rfl rfl rfl rfl (hT _) rfl rfl rfl ?_
        repeat (refine aops_p tok rfl rfl rfl rfl ?_)
        refine aops_eqb tok rfl rfl rfl rfl rfl rfl rfl ?_
        repeat (first | refine aops_end ?_ | refine aops_p tok rfl rfl rfl rfl ?_)
        refine acode_ret ?_
        skip
        exact ⟨_, rfl, resOf_tmp rfl⟩
  · refine aops_put rfl ?_
    repeat (refine aops_p tok rfl rfl rfl rfl ?_)
    refine aops_end ?_
    refine acode_seq ?_
    refine acode_joinI (ι := Unit) (fun _ => [(1, .int .i64 most), (2, .int .i64 n), (3, .pp (foC f))]) (fun _ => []) (fun _ => Gd f) ?_ ?_
    · repeat' (first | refine aops_end ?_ | refine aops_o rfl rfl rfl ?_ | (refine aops_pd tok rfl rfl rfl rfl ?_ ?_ <;> intro e_) | refine aops_p tok rfl rfl rfl rfl ?_ | refine acode_it rfl ?_ | refine acode_seq ?_ | refine acode_region ?_)
      all_goals try
        (refine acode_ret ?_
         repeat (refine ret_then ?_)
         exact ⟨_, rfl, resOf_tmp rfl⟩)
      refine aops_callx Try.func25 rfl rfl rfl rfl (no_of hF (largest_calls hf [])) rfl rfl rfl ?_
      repeat' (first | refine aops_end ?_ | refine aops_o rfl rfl rfl ?_ | (refine aops_pd tok rfl rfl rfl rfl ?_ ?_ <;> intro e_) | refine aops_p tok rfl rfl rfl rfl ?_ | refine acode_it rfl ?_ | refine acode_seq ?_ | refine acode_region ?_)
      all_goals try
        (refine acode_ret ?_
         repeat (refine ret_then ?_)
         exact ⟨_, rfl, resOf_tmp rfl⟩)
      all_goals
        (refine aops_callx Try.func18 rfl rfl rfl rfl (no_of hF (rfform_calls hf [])) rfl rfl rfl ?_
         repeat' (first | refine aops_end ?_ | refine aops_o rfl rfl rfl ?_ | refine aops_p tok rfl rfl rfl rfl ?_ | refine acode_if rfl ?_ | refine acode_skip ?_ | refine then_n ?_))
      all_goals try
        (refine acode_ret ?_
         skip
         exact ⟨_, rfl, resOf_tmp rfl⟩)
      all_goals exact ⟨(), fun h => absurd h hF, ⟨rfl, rfl, rfl, trivial⟩, rfl⟩
    · rintro - hG
      have hA := fun M => no_of hF (uall_calls hf hrg (fun h => absurd h hF) (fun h => absurd h hF) most M)
      have hB := fun M => no_of hF (rall_calls hf hrg (fun h => absurd h hF) (fun h => absurd h hF) most M)
      have hC := fun M => unthf_calls hf hrg (fun h => absurd h hF) (fun h => absurd h hF) n M
      have hD := fun M => rnthf_calls hf hrg (fun h => absurd h hF) (fun h => absurd h hF) n M
      have hh : ¬ Here f n := fun h => hF h.1
      have hS := fun M => acalls_arg (xs := [.nils, .nils]) (.cons .nils (.cons .nils .nil)) (sameTs_calls (l := []) (m := []) (n := 0) (by decide) (by decide) (by decide) (by simp) (by simp) M)
      rw [eqTs_self] at hS
      have hC := fun M => (hC M).mono (R' := fun r M' => r = .tup [noT, .bool false] ∧ M' = M) (by
        rintro r M' ⟨⟨t', h2, h1, rfl⟩ | ⟨h1, rfl⟩, rfl⟩
        · exact absurd h2 hh
        · exact ⟨rfl, rfl⟩)
      have hD := fun M => (hD M).mono (R' := fun r M' => r = .tup [noT, .bool false] ∧ M' = M) (by
        rintro r M' ⟨⟨t', h2, h1, rfl⟩ | ⟨h1, rfl⟩, rfl⟩
        · exact absurd h2 hh
        · exact ⟨rfl, rfl⟩)
      have hT := fun M => acalls_arg (xs := [noT, noT]) (.cons (.agg (.cons (.refl _) (.cons (.refl _) (.cons .nils .nil)))) (.cons (.agg (.cons (.refl _) (.cons (.refl _) (.cons .nils .nil)))) .nil)) (sameT_calls ⟨0, 0, []⟩ (by decide) ⟨0, 0, []⟩ (by decide) M)
      rw [eqT_self] at hT
      repeat (first | refine aops_p tok rfl rfl rfl rfl ?_ | refine acode_seq ?_ | refine acode_region ?_)
      refine aops_callx Try.func30 rfl rfl rfl rfl (hA _) rfl rfl rfl ?_
      repeat (first | refine aops_end ?_ | refine aops_p tok rfl rfl rfl rfl ?_ | refine acode_seq ?_ | refine acode_region ?_)
      refine aops_callx Try.func26 rfl rfl rfl rfl (hB _) rfl rfl rfl ?_
      repeat (first | refine aops_end ?_ | refine aops_p tok rfl rfl rfl rfl ?_ | refine acode_seq ?_ | refine acode_region ?_)
      refine aops_callx Try.func34 rfl rfl rfl rfl (hC _) rfl rfl rfl ?_
      repeat (refine aops_p tok rfl rfl rfl rfl ?_)
      refine aops_alloc tok rfl rfl rfl rfl rfl rfl fun b1 => ?_
      repeat (first | refine aops_p tok rfl rfl rfl rfl ?_ | refine aops_stn tok rfl rfl rfl rfl rfl rfl rfl rfl rfl ?_)
      refine aops_pubref0 14 rfl ?_
      repeat (first | refine aops_end ?_ | refine aops_p tok rfl rfl rfl rfl ?_ | refine acode_seq ?_ | refine acode_region ?_)
      refine aops_callx Try.func35 rfl rfl rfl rfl (hD _) rfl rfl rfl ?_
      repeat (refine aops_p tok rfl rfl rfl rfl ?_)
      refine aops_alloc tok rfl rfl rfl rfl rfl rfl fun b2 => ?_
      repeat (first | refine aops_p tok rfl rfl rfl rfl ?_ | refine aops_stn tok rfl rfl rfl rfl rfl rfl rfl rfl rfl ?_)
      refine aops_pubref0 16 rfl ?_
      repeat (first | refine aops_end ?_ | refine aops_p tok rfl rfl rfl rfl ?_ | refine acode_seq ?_ | refine acode_region ?_)
      refine aops_callx Try.func36 rfl rfl rfl rfl (hS _) rfl rfl rfl ?_
      repeat (refine aops_p tok rfl rfl rfl rfl ?_)
      refine aops_eqb tok rfl rfl rfl rfl rfl rfl rfl ?_
      repeat (refine aops_p tok rfl rfl rfl rfl ?_)
      refine aops_callx Try.func33 rfl rfl rfl rfl (hT _) rfl rfl rfl ?_
      repeat (refine aops_p tok rfl rfl rfl rfl ?_)
      refine aops_eqb tok rfl rfl rfl rfl rfl rfl rfl ?_
      repeat (first | refine aops_end ?_ | refine aops_p tok rfl rfl rfl rfl ?_)
      refine acode_ret ?_
      skip
      exact ⟨_, rfl, resOf_tmp rfl⟩
end Go.Proofs.Ytnlmfhnjjblhoaa.Ab
/- Grammars in plain terms, and as arguments. No condition. -/
set_option linter.unusedVariables false
set_option linter.unusedSimpArgs false
namespace Go.Proofs.Ytnlmfhnjjblhoaa.Ab
structure Ru where
  left : Int
  right : List Int
  dyn : Int
def ruC (r : Ru) : List A := [.int .i64 r.left, .psl r.right.length (ints r.right), .int .i64 r.dyn]
structure Gr where
  names : Int
  kinds : Int
  start : Int
  rules : List Ru
  forbid : List (Int × Int × Int)
  rc : List Int
  kc : List Int
def f3C (f : Int × Int × Int) : List A := [.int .i64 f.1, .int .i64 f.2.1, .int .i64 f.2.2]
def grC (g : Gr) : List A := [.int .i64 g.names, .int .i64 g.kinds, .int .i64 g.start, .psl g.rules.length (encs ruC g.rules), .psl g.forbid.length (encs f3C g.forbid), .psl g.rc.length (ints g.rc), .psl g.kc.length (ints g.kc)]
def grA (g : Gr) : A := .agg (grC g)

structure GrOk (g : Gr) : Prop where
  rc : g.rc.length ≤ 9223372036854775807
  kc : g.kc.length ≤ 9223372036854775807
  fo : g.forbid.length ≤ 9223372036854775807
  rl : g.rules.length ≤ 9223372036854775807
  rr : ∀ r ∈ g.rules, r.right.length ≤ 9223372036854775807 ∧ ∀ s ∈ r.right, rng s

theorem good_arr {T : List TI} {f t n e : Nat} {x : A} (hk : kindOf T t = some (.array n e)) (h : Good T f t x) : ∃ (f' : Nat) (css : List (List A)), x = .agg css.flatten ∧ css.length = n ∧ ∀ c ∈ css, ∃ y, Good T f' e y ∧ y.cs = c := by
  cases f with
  | zero => exact h.elim
  | succ f =>
    simp only [Good, hk] at h
    obtain ⟨css, rfl, hl, hc⟩ := h
    exact ⟨f, css, rfl, hl, hc⟩
theorem good_f3 {f : Nat} {x : A} (h : Good T f 44 x) : ∃ r, x = .agg (f3C r) ∧ True := by
  obtain ⟨f', css, rfl, hl, hc⟩ := good_arr (n := 3) (e := 3) rfl h
  match css, hl with
  | [c0, c1, c2], _ =>
    obtain ⟨y0, g0, rfl⟩ := hc c0 (by simp)
    obtain ⟨y1, g1, rfl⟩ := hc c1 (by simp)
    obtain ⟨y2, g2, rfl⟩ := hc c2 (by simp)
    obtain ⟨a, rfl, _⟩ := good_int (k := .i64) rfl g0
    obtain ⟨b, rfl, _⟩ := good_int (k := .i64) rfl g1
    obtain ⟨c, rfl, _⟩ := good_int (k := .i64) rfl g2
    exact ⟨(a, b, c), rfl, trivial⟩
theorem good_ru {f : Nat} {x : A} (h : Good T f 39 x) : ∃ r, x = .agg (ruC r) ∧ (r.right.length ≤ 9223372036854775807 ∧ ∀ s ∈ r.right, rng s) := by
  obtain ⟨f', ys, rfl, y0, _, rfl, g0, y1, _, rfl, g1, y2, _, rfl, g2, rfl⟩ := good_struct (fs := [(0, 3), (1, 26), (2, 3)]) rfl h
  obtain ⟨a, rfl, _⟩ := good_int (k := .i64) rfl g0
  obtain ⟨l, rfl, hl, hw⟩ := good_ints' (e := 3) (k := .i64) rfl rfl g1
  obtain ⟨d, rfl, _⟩ := good_int (k := .i64) rfl g2
  exact ⟨⟨a, l, d⟩, rfl, hl, fun s hs => wf_i64 (hw s hs)⟩
theorem good_gr {f : Nat} {x : A} (h : Good T f 43 x) : ∃ g, x = grA g ∧ GrOk g := by
  obtain ⟨f', ys, rfl, y0, _, rfl, g0, y1, _, rfl, g1, y2, _, rfl, g2, y3, _, rfl, g3, y4, _, rfl, g4, y5, _, rfl, g5, y6, _, rfl, g6, rfl⟩ := good_struct (fs := [(0, 3), (1, 3), (2, 3), (3, 40), (4, 41), (5, 26), (6, 26)]) rfl h
  obtain ⟨a, rfl, _⟩ := good_int (k := .i64) rfl g0
  obtain ⟨b, rfl, _⟩ := good_int (k := .i64) rfl g1
  obtain ⟨c, rfl, _⟩ := good_int (k := .i64) rfl g2
  obtain ⟨rs, rfl, h3, h3'⟩ := good_encs (g := fun r => A.agg (ruC r)) (c := ruC) (p := fun r => r.right.length ≤ 9223372036854775807 ∧ ∀ s ∈ r.right, rng s) (e := 39) rfl (fun f y hy => good_ru hy) (fun _ => rfl) g3
  obtain ⟨fs, rfl, h4, _⟩ := good_encs (g := fun r => A.agg (f3C r)) (c := f3C) (p := fun _ => True) (e := 44) rfl (fun f y hy => good_f3 hy) (fun _ => rfl) g4
  obtain ⟨l5, rfl, h5⟩ := good_ints (e := 3) (k := .i64) rfl rfl g5
  obtain ⟨l6, rfl, h6⟩ := good_ints (e := 3) (k := .i64) rfl rfl g6
  exact ⟨⟨a, b, c, rs, fs, l5, l6⟩, rfl, h5, h6, h4, h3, h3'⟩

end Go.Proofs.Ytnlmfhnjjblhoaa.Ab
/- Chapter 10's reference, form: pulled out of Gra2, Gra3, Gra4 (printed by genchk.py). No condition. -/
set_option linter.unusedVariables false
set_option linter.unusedSimpArgs false
namespace Go.Proofs.Ytnlmfhnjjblhoaa.Ab
attribute [local irreducible] thenA inBlockA ACode AOps put IntKind.wrap

def isName (g : Gr) (s : Int) : Prop := 0 ≤ s ∧ s < g.names
def isKind (g : Gr) (s : Int) : Prop := s < 0 ∧ -1 - s < g.kinds
def isSym (g : Gr) (s : Int) : Prop := isKind g s ∨ isName g s
instance (g : Gr) (s : Int) : Decidable (isName g s) := inferInstanceAs (Decidable (_ ∧ _))
instance (g : Gr) (s : Int) : Decidable (isKind g s) := inferInstanceAs (Decidable (_ ∧ _))
instance (g : Gr) (s : Int) : Decidable (isSym g s) := inferInstanceAs (Decidable (_ ∨ _))
def badC (c : Int) : Bool := decide (c < 0 ∨ c > 100)
def clsOk (l : List Int) (n : Int) : Prop := l.length ≤ n ∧ l.any badC = false
instance (l : List Int) (n : Int) : Decidable (clsOk l n) := inferInstanceAs (Decidable (_ ∧ _))
def bigB (g : Gr) : Prop := g.names < 1 ∨ g.names > 40 ∨ g.kinds < 0 ∨ g.kinds > 40 ∨ g.rules.length > 60 ∨ g.forbid.length > 200
instance (g : Gr) : Decidable (bigB g) := inferInstanceAs (Decidable (_ ∨ _ ∨ _ ∨ _ ∨ _ ∨ _))
def wholeF (g : Gr) : Int := if bigB g then 3 else if ¬ isName g g.start then 6 else if ¬ (clsOk g.rc g.rules.length ∧ clsOk g.kc g.kinds) then 1 else 0
def ruleF (g : Gr) (r : Ru) : Int := if ¬ isName g r.left ∨ r.right.any (fun s => !decide (isSym g s)) = true then 6 else if r.right.length > 8 then 3 else if r.dyn < -1000 ∨ r.dyn > 1000 then 1 else 0
def ruD : Ru := ⟨0, [], 0⟩
def ruleAt (g : Gr) (i : Int) : Ru := g.rules.getD i.toNat ruD
def forbOk (g : Gr) (f : Int × Int × Int) : Prop := (0 ≤ f.1 ∧ f.1 < g.rules.length ∧ 0 ≤ f.2.2 ∧ f.2.2 < g.rules.length) ∧ (0 ≤ f.2.1 ∧ f.2.1 < (ruleAt g f.1).right.length) ∧ (ruleAt g f.1).right.getD f.2.1.toNat 0 = (ruleAt g f.2.2).left
instance (g : Gr) (f : Int × Int × Int) : Decidable (forbOk g f) := inferInstanceAs (Decidable (_ ∧ _ ∧ _))
theorem ruleAt_at {g : Gr} {i : Int} (h0 : 0 ≤ i) (h1 : i < g.rules.length) : g.rules[i.toNat]? = some (ruleAt g i) := by
  have : i.toNat < g.rules.length := by omega
  simp [ruleAt, List.getElem?_eq_getElem this]
theorem int_at {l : List Int} {i : Int} (h0 : 0 ≤ i) (h1 : i < l.length) : l[i.toNat]? = some (l.getD i.toNat 0) := by
  have : i.toNat < l.length := by omega
  simp [List.getElem?_eq_getElem this]
def rulesF (g : Gr) : Int → List Ru → Option (Int × Int)
  | _, [] => none
  | i, r :: rs => if ruleF g r ≠ 0 then some (i, ruleF g r) else rulesF g (i + 1) rs
def formF (g : Gr) : Int × Int := if wholeF g ≠ 0 then (-1, wholeF g) else match rulesF g 0 g.rules with
  | some p => p
  | none => if g.forbid.any (fun f => !decide (forbOk g f)) = true then (-1, 6) else (-1, 0)
def tup2 (p : Int × Int) : A := .tup [.int .i64 p.1, .int .i64 p.2]
theorem symbol_calls {g : Gr} {s : Int} (hs : rng s) (M : List Ob) : ACalls Try.prog 75 [grA g, .int .i64 s] M (fun r M' => r = .bool (decide (isSym g s)) ∧ M' = M) := by
  obtain ⟨s0, s1⟩ := hs
  refine acalls_of_code 16 Try.func75 rfl rfl rfl ?_
  repeat (first | refine acode_seq ?_ | refine acode_region ?_)
  refine aops_boxf rfl rfl rfl rfl rfl rfl rfl ?_
  repeat' (first | refine aops_end ?_ | refine aops_a tok rfl (by omega) (by omega) rfl rfl rfl ?_ | (refine aops_pd tok rfl rfl rfl rfl ?_ ?_ <;> intro e_) | refine aops_p tok rfl rfl rfl rfl ?_ | refine acode_it rfl ?_ | refine acode_if rfl ?_ | refine acode_seq ?_ | refine acode_region ?_ | refine acode_skip ?_ | refine then_n ?_)
  all_goals
    refine acode_ret ?_
    repeat (refine ret_then ?_)
    exact ⟨.bool (decide (isSym g s)), ⟨rfl, rfl⟩, resOf_tmp (by first | exact bt (by unfold isSym isKind isName; omega) | exact bf (by unfold isSym isKind isName; omega))⟩
theorem rclasses_calls {l : List Int} (hl : l.length ≤ 9223372036854775807) (M : List Ob) : ACalls Try.prog 74 [.psl l.length (ints l)] M (fun r M' => r = .bool (!l.any badC) ∧ M' = M) := by
  refine acalls_of_code 22 Try.func74 rfl rfl rfl ?_
  repeat (first | refine aops_end ?_ | refine aops_p tok rfl rfl rfl rfl ?_ | refine acode_seq ?_ | refine acode_region ?_ | refine acode_block ?_)
  refine acode_loopS (ι := Nat) (fun i => [(0, .psl l.length (ints l)), (3, .int .i64 i)]) (fun _ => M) (fun i => l.length - i) (fun i => i ≤ l.length ∧ (l.take i).any badC = false) 0 ⟨Nat.zero_le _, by simp⟩ ⟨rfl, rfl, trivial⟩ rfl ?_
  rintro i ⟨hi, hn⟩
  repeat (first | refine aops_end ?_ | refine aops_p tok rfl rfl rfl rfl ?_ | refine acode_seq ?_ | refine acode_region ?_)
  refine acode_id rfl (fun e => ?_) (fun e => ?_)
  · have hlt : i < l.length := by omega
    obtain ⟨x, hx⟩ : ∃ x, l[i]? = some x := ⟨l[i], List.getElem?_eq_getElem hlt⟩
    repeat (first | refine aops_p tok rfl rfl rfl rfl ?_ | refine acode_seq ?_ | refine acode_region ?_ | refine acode_block ?_ | refine acode_skip ?_ | refine then_n ?_)
    refine aops_ix tok [A.int .i64 x] rfl rfl rfl rfl (by omega) (by omega) (by simp) (ints_at (j := i) (by simpa using hx)) rfl rfl rfl ?_
    repeat' (first | refine aops_end ?_ | refine aops_o rfl rfl rfl ?_ | (refine aops_pd tok rfl rfl rfl rfl ?_ ?_ <;> intro e_) | refine aops_p tok rfl rfl rfl rfl ?_ | refine acode_it rfl ?_ | refine acode_seq ?_ | refine acode_region ?_)
    · refine acode_ret ?_
      repeat (first | refine ret_then ?_ | refine ret_block ?_)
      refine ⟨_, ⟨rfl, rfl⟩, resOf_tmp ?_⟩
      have : l.any badC = true := List.any_eq_true.2 ⟨x, List.mem_of_getElem? hx, by unfold badC; rw [decide_eq_true (by omega)]⟩
      rw [this]; rfl
    · refine aops_ix tok [A.int .i64 x] rfl rfl rfl rfl (by omega) (by omega) (by simp) (ints_at (j := i) (by simpa using hx)) rfl rfl rfl ?_
      repeat' (first | refine aops_end ?_ | refine aops_a tok rfl (by omega) (by omega) rfl rfl rfl ?_ | (refine aops_pd tok rfl rfl rfl rfl ?_ ?_ <;> intro e_) | refine aops_p tok rfl rfl rfl rfl ?_ | refine acode_it rfl ?_ | refine acode_if rfl ?_ | refine acode_seq ?_ | refine acode_region ?_ | refine acode_skip ?_ | refine then_n ?_ | refine block_n ?_)
      · refine acode_ret ?_
        repeat (first | refine ret_then ?_ | refine ret_block ?_)
        refine ⟨_, ⟨rfl, rfl⟩, resOf_tmp ?_⟩
        have : l.any badC = true := List.any_eq_true.2 ⟨x, List.mem_of_getElem? hx, by unfold badC; rw [decide_eq_true (by omega)]⟩
        rw [this]; rfl
      · refine ⟨i + 1, ⟨by omega, ?_⟩, by omega, ⟨rfl, rfl, trivial⟩, rfl⟩
        rw [List.take_add_one, hx]
        have : badC x = false := by unfold badC; rw [decide_eq_false (by omega)]
        simp [hn, this]
  · have hge : i = l.length := by omega
    subst hge
    refine acode_exit ?_
    repeat (first | refine exit_then ?_ | refine exit_here ?_ | refine then_n ?_)
    repeat (first | refine aops_end ?_ | refine aops_p tok rfl rfl rfl rfl ?_ | refine acode_seq ?_ | refine acode_region ?_)
    refine acode_ret ?_
    skip
    rw [List.take_length] at hn
    exact ⟨_, ⟨rfl, rfl⟩, resOf_tmp (by rw [hn]; rfl)⟩
def okR (g : Gr) (r : Ru) (k : Nat) : Bool := decide (isName g r.left) && (r.right.take k).all fun s => decide (isSym g s)
theorem okR_end {g : Gr} {r : Ru} : okR g r r.right.length = true ↔ ¬ (¬ isName g r.left ∨ r.right.any (fun s => !decide (isSym g s)) = true) := by
  unfold okR
  rw [List.take_length]
  simp
theorem okR_false {g : Gr} {r : Ru} {k : Nat} (h : okR g r k = false) : okR g r r.right.length = false := by
  cases h2 : okR g r r.right.length with
  | false => rfl
  | true =>
    unfold okR at h h2
    rw [List.take_length] at h2
    simp only [Bool.and_eq_true, List.all_eq_true] at h2
    have : (decide (isName g r.left) && (r.right.take k).all fun s => decide (isSym g s)) = true := by
      simp only [Bool.and_eq_true, List.all_eq_true]
      exact ⟨h2.1, fun s hs => h2.2 s (List.mem_of_mem_take hs)⟩
    rw [this] at h
    cases h
set_option maxHeartbeats 4000000 in
theorem rform_calls {g : Gr} (hg : GrOk g) (M : List Ob) : ACalls Try.prog 55 [grA g] M (fun x M' => x = tup2 (formF g) ∧ M' = M) := by
  refine acalls_of_code 211 Try.func55 rfl rfl rfl ?_
  repeat (first | refine acode_seq ?_ | refine acode_region ?_)
  refine aops_boxf rfl rfl rfl rfl rfl rfl rfl ?_
  repeat' (first | refine aops_end ?_ | refine aops_o rfl rfl rfl ?_ | (refine aops_pd tok rfl rfl rfl rfl ?_ ?_ <;> intro e_) | refine aops_p tok rfl rfl rfl rfl ?_ | refine acode_it rfl ?_ | refine acode_if rfl ?_ | refine acode_seq ?_ | refine acode_region ?_ | refine acode_skip ?_ | refine then_n ?_)
  all_goals try
    (have hw : wholeF g = 3 := by unfold wholeF; rw [if_pos (by unfold bigB; omega)]
     have hf : formF g = (-1, 3) := by unfold formF; rw [hw, if_pos (by omega)]
     rw [hf]
     refine acode_ret ?_
     repeat (refine ret_then ?_)
     exact ⟨_, ⟨rfl, rfl⟩, _, _, rfl, resOf_tmp rfl, resOf_tmp rfl⟩)
  all_goals try
    (have hw : wholeF g = 6 := by unfold wholeF; rw [if_neg (by unfold bigB; omega), if_pos (by unfold isName; omega)]
     have hf : formF g = (-1, 6) := by unfold formF; rw [hw, if_pos (by omega)]
     rw [hf]
     refine acode_ret ?_
     repeat (refine ret_then ?_)
     exact ⟨_, ⟨rfl, rfl⟩, _, _, rfl, resOf_tmp rfl, resOf_tmp rfl⟩)
  all_goals have hb : ¬ bigB g := by unfold bigB; omega
  all_goals have hs : isName g g.start := by unfold isName; omega
  all_goals try
    (have hw : wholeF g = 1 := by unfold wholeF; rw [if_neg hb, if_neg (by simp [hs]), if_pos (by unfold clsOk; intro hc; obtain ⟨⟨_, _⟩, ⟨_, _⟩⟩ := hc; omega)]
     have hf : formF g = (-1, 1) := by unfold formF; rw [hw, if_pos (by omega)]
     rw [hf]
     refine acode_ret ?_
     repeat (refine ret_then ?_)
     exact ⟨_, ⟨rfl, rfl⟩, _, _, rfl, resOf_tmp rfl, resOf_tmp rfl⟩)
  refine aops_callx Try.func74 rfl rfl rfl rfl (rclasses_calls hg.rc _) rfl rfl rfl ?_
  have hlr : (g.rc.length : Int) ≤ g.rules.length := by omega
  have hlk : (g.kc.length : Int) ≤ g.kinds := by omega
  have one : ¬ (clsOk g.rc g.rules.length ∧ clsOk g.kc g.kinds) → formF g = (-1, 1) := fun h => by
    have hw : wholeF g = 1 := by unfold wholeF; rw [if_neg hb, if_neg (by simp [hs]), if_pos h]
    unfold formF; rw [hw, if_pos (by omega)]
  cases h1 : g.rc.any badC with
  | true =>
    rw [one (fun h => by have := h.1.2; rw [h1] at this; cases this)]
    repeat' (first | refine aops_end ?_ | refine aops_o rfl rfl rfl ?_ | refine aops_p tok rfl rfl rfl rfl ?_ | refine acode_it rfl ?_ | refine acode_seq ?_ | refine acode_region ?_)
    refine acode_ret ?_
    repeat (refine ret_then ?_)
    exact ⟨_, ⟨rfl, rfl⟩, _, _, rfl, resOf_tmp rfl, resOf_tmp rfl⟩
  | false =>
  repeat' (refine aops_p tok rfl rfl rfl rfl ?_)
  refine aops_callx Try.func74 rfl rfl rfl rfl (rclasses_calls hg.kc _) rfl rfl rfl ?_
  cases h2 : g.kc.any badC with
  | true =>
    rw [one (fun h => by have := h.2.2; rw [h2] at this; cases this)]
    repeat' (first | refine aops_end ?_ | refine aops_p tok rfl rfl rfl rfl ?_ | refine acode_it rfl ?_ | refine acode_seq ?_ | refine acode_region ?_)
    refine acode_ret ?_
    repeat (refine ret_then ?_)
    exact ⟨_, ⟨rfl, rfl⟩, _, _, rfl, resOf_tmp rfl, resOf_tmp rfl⟩
  | false =>
  have hw : wholeF g = 0 := by unfold wholeF; rw [if_neg hb, if_neg (by simp [hs]), if_neg (by simp only [Classical.not_not]; exact ⟨⟨hlr, h1⟩, hlk, h2⟩)]
  have hF : formF g = match rulesF g 0 g.rules with
    | some p => p
    | none => if g.forbid.any (fun f => !decide (forbOk g f)) = true then (-1, 6) else (-1, 0) := by unfold formF; rw [if_neg (by simp [hw])]; try rfl
  clear one hw hb hs hlr hlk
  have hrl := hg.rl
  repeat' (first | refine aops_end ?_ | refine aops_p tok rfl rfl rfl rfl ?_ | refine acode_if rfl ?_ | refine acode_seq ?_ | refine acode_region ?_ | refine acode_block ?_ | refine acode_skip ?_ | refine then_n ?_)
  refine acode_loopS (ι := Nat) (fun i => [(1, .pp (grC g)), (4, .int .i64 i)]) (fun _ => M) (fun i => g.rules.length - i) (fun i => i ≤ g.rules.length ∧ rulesF g i (g.rules.drop i) = rulesF g 0 g.rules) 0 ⟨Nat.zero_le _, rfl⟩ ⟨rfl, rfl, trivial⟩ rfl ?_
  rintro i ⟨hi, hr⟩
  repeat (first | refine aops_end ?_ | refine aops_p tok rfl rfl rfl rfl ?_ | refine acode_seq ?_ | refine acode_region ?_)
  refine acode_id rfl (fun e => ?_) (fun e => ?_)
  · have hlt : i < g.rules.length := by omega
    obtain ⟨r, hx⟩ : ∃ r, g.rules[i]? = some r := ⟨g.rules[i], List.getElem?_eq_getElem hlt⟩
    have hm := List.mem_of_getElem? hx
    have hdr : g.rules.drop i = r :: g.rules.drop (i + 1) := by
      rw [List.drop_eq_getElem_cons hlt]
      rw [List.getElem?_eq_getElem hlt] at hx
      rw [Option.some.inj hx]
    rw [hdr, rulesF] at hr
    obtain ⟨hrr, hrs⟩ := hg.rr r hm
    repeat (first | refine aops_p tok rfl rfl rfl rfl ?_ | refine acode_seq ?_ | refine acode_region ?_ | refine acode_block ?_ | refine acode_skip ?_ | refine then_n ?_)
    refine aops_ix tok (ruC r) rfl rfl rfl rfl (by omega) (by omega) (by simp [ruC]) (encs_at (e := ruC) (s := 3) (fun _ => rfl) (i := (i : Int).toNat) (by simpa using hx)) rfl rfl rfl ?_
    repeat (refine aops_p tok rfl rfl rfl rfl ?_)
    refine aops_alloc tok rfl rfl rfl rfl rfl rfl fun b => ?_
    repeat (refine aops_stn tok rfl rfl rfl rfl rfl rfl rfl rfl rfl ?_)
    refine aops_pubref0 5 rfl ?_
    refine aops_end ?_
    refine acode_seq ?_
    refine acode_join [(1, .pp (grC g)), (4, .int .i64 i), (5, .pp (ruC r)), (6, .bool (okR g r 0))] M ?_ ?_
    · have h0 : okR g r 0 = decide (isName g r.left) := by simp [okR]
      rw [h0]
      repeat' (first | refine aops_end ?_ | refine aops_o rfl rfl rfl ?_ | (refine aops_pd tok rfl rfl rfl rfl ?_ ?_ <;> intro e_) | refine aops_p tok rfl rfl rfl rfl ?_ | refine acode_region ?_)
      all_goals exact ⟨⟨rfl, rfl, rfl, by first | exact bt (by unfold isName; omega) | exact bf (by unfold isName; omega), trivial⟩, rfl⟩
    refine acode_seq ?_
    refine acode_seq ?_
    refine acode_region ?_
    repeat (refine aops_p tok rfl rfl rfl rfl ?_)
    refine aops_end ?_
    refine acode_join [(1, .pp (grC g)), (4, .int .i64 i), (5, .pp (ruC r)), (6, .bool (okR g r r.right.length))] M ?_ ?_
    · refine acode_block ?_
      refine acode_loopS (ι := Nat) (fun k => [(1, .pp (grC g)), (4, .int .i64 i), (5, .pp (ruC r)), (6, .bool (okR g r k)), (7, .int .i64 k)]) (fun _ => M) (fun k => r.right.length - k) (fun k => k ≤ r.right.length) 0 (Nat.zero_le _) ⟨rfl, rfl, rfl, rfl, rfl, trivial⟩ rfl ?_
      intro k hk
      cases hok : okR g r k with
      | false =>
        repeat' (first | refine aops_end ?_ | refine aops_o rfl rfl rfl ?_ | (refine aops_pd tok rfl rfl rfl rfl ?_ ?_ <;> intro e_) | refine aops_p tok rfl rfl rfl rfl ?_ | refine acode_if rfl ?_ | refine acode_seq ?_ | refine acode_region ?_)
        all_goals
          refine acode_exit ?_
          repeat (first | refine exit_then ?_ | refine exit_here ?_ | refine then_n ?_)
          exact ⟨⟨rfl, rfl, rfl, by rw [okR_false hok]; rfl, trivial⟩, rfl⟩
      | true =>
        repeat' (first | refine aops_end ?_ | refine aops_o rfl rfl rfl ?_ | (refine aops_pd tok rfl rfl rfl rfl ?_ ?_ <;> intro e_) | refine aops_p tok rfl rfl rfl rfl ?_ | refine acode_it rfl ?_ | refine acode_if rfl ?_ | refine acode_seq ?_ | refine acode_region ?_ | refine acode_block ?_ | refine acode_skip ?_ | refine then_n ?_)
        · obtain ⟨s, hsx⟩ : ∃ s, r.right[k]? = some s := ⟨r.right[k]'(by omega), List.getElem?_eq_getElem (by omega)⟩
          refine acode_drawT 7 mixed (by kernel_rfl) (by kernel_rfl) ?_
          repeat (refine seqT_p tok rfl rfl rfl rfl ?_)
          refine seqT_ix tok [A.int .i64 s] rfl rfl rfl rfl (by omega) (by omega) (by simp) (ints_at (j := k) (by simpa using hsx)) rfl rfl rfl ?_
          repeat (refine seqT_p tok rfl rfl rfl rfl ?_)
          refine seqT_call _ Try.func75 rfl rfl rfl rfl (symbol_calls (hrs s (List.mem_of_getElem? hsx)) _) rfl rfl rfl ?_
          refine SeqT.done ?_
          repeat (first | refine aops_end ?_ | refine aops_endb ?_ | refine aops_a tok rfl (by omega) (by omega) rfl rfl rfl ?_ | refine aops_p tok rfl rfl rfl rfl ?_ | refine acode_region ?_ | refine then_n ?_)
          refine ⟨k + 1, by omega, by omega, ⟨rfl, rfl, rfl, ?_, rfl, trivial⟩, rfl⟩
          show A.bool _ = A.bool _
          congr 1
          unfold okR at hok ⊢
          rw [List.take_add_one, hsx]
          simp only [Bool.and_eq_true] at hok
          simp [List.all_append, hok.1, hok.2]
        · refine acode_exit ?_
          repeat (first | refine exit_then ?_ | refine exit_here ?_ | refine then_n ?_)
          have hke : k = r.right.length := by omega
          subst hke
          exact ⟨⟨rfl, rfl, rfl, by rw [hok]; rfl, trivial⟩, rfl⟩
    have hend := okR_end (g := g) (r := r)
    cases hok : okR g r r.right.length with
    | false =>
      have hn : ¬ isName g r.left ∨ r.right.any (fun s => !decide (isSym g s)) = true := Classical.byContradiction fun h => by rw [hend.2 h] at hok; cases hok
      have hrf : ruleF g r = 6 := by unfold ruleF; rw [if_pos hn]
      rw [hrf, if_pos (by omega)] at hr
      rw [← hr] at hF
      rw [hF]
      repeat' (first | refine aops_end ?_ | refine aops_p tok rfl rfl rfl rfl ?_ | refine acode_it rfl ?_ | refine acode_seq ?_ | refine acode_region ?_ | refine acode_block ?_)
      refine acode_ret ?_
      repeat (first | refine ret_then ?_ | refine ret_block ?_)
      exact ⟨_, ⟨rfl, rfl⟩, _, _, rfl, resOf_tmp rfl, resOf_tmp rfl⟩
    | true =>
      have hn := hend.1 hok
      repeat' (first | refine aops_end ?_ | refine aops_o rfl rfl rfl ?_ | refine aops_a tok rfl (by omega) (by omega) rfl rfl rfl ?_ | (refine aops_pd tok rfl rfl rfl rfl ?_ ?_ <;> intro e_) | refine aops_p tok rfl rfl rfl rfl ?_ | refine acode_it rfl ?_ | refine acode_if rfl ?_ | refine acode_seq ?_ | refine acode_region ?_ | refine acode_block ?_ | refine acode_skip ?_ | refine then_n ?_ | refine block_n ?_)
      all_goals try
        (have hrf : ruleF g r = 3 := by unfold ruleF; rw [if_neg hn, if_pos (by omega)]
         rw [hrf, if_pos (by omega)] at hr
         rw [← hr] at hF
         rw [hF]
         refine acode_ret ?_
         repeat (first | refine ret_then ?_ | refine ret_block ?_)
         exact ⟨_, ⟨rfl, rfl⟩, _, _, rfl, resOf_tmp rfl, resOf_tmp rfl⟩)
      all_goals try
        (have hrf : ruleF g r = 1 := by unfold ruleF; rw [if_neg hn, if_neg (by omega), if_pos (by omega)]
         rw [hrf, if_pos (by omega)] at hr
         rw [← hr] at hF
         rw [hF]
         refine acode_ret ?_
         repeat (first | refine ret_then ?_ | refine ret_block ?_)
         exact ⟨_, ⟨rfl, rfl⟩, _, _, rfl, resOf_tmp rfl, resOf_tmp rfl⟩)
      have hrf : ruleF g r = 0 := by unfold ruleF; rw [if_neg hn, if_neg (by omega), if_neg (by omega)]
      rw [hrf, if_neg (by simp)] at hr
      exact ⟨i + 1, ⟨by omega, by rw [← hr]; rfl⟩, by omega, ⟨rfl, rfl, trivial⟩, rfl⟩
  · have hge : i = g.rules.length := by omega
    subst hge
    rw [List.drop_length, rulesF] at hr
    rw [← hr] at hF
    simp only at hF
    clear hr e hi
    refine acode_exit ?_
    repeat (first | refine exit_then ?_ | refine exit_here ?_ | refine then_n ?_)
    have hfo := hg.fo
    repeat' (first | refine aops_end ?_ | refine aops_p tok rfl rfl rfl rfl ?_ | refine acode_seq ?_ | refine acode_region ?_ | refine acode_block ?_)
    refine acode_loopS (ι := Nat) (fun i => [(1, .pp (grC g)), (8, .int .i64 i)]) (fun _ => M) (fun i => g.forbid.length - i) (fun i => i ≤ g.forbid.length ∧ (g.forbid.take i).any (fun f => !decide (forbOk g f)) = false) 0 ⟨Nat.zero_le _, by simp⟩ ⟨rfl, rfl, trivial⟩ rfl ?_
    rintro i ⟨hi, hr⟩
    repeat (first | refine aops_end ?_ | refine aops_p tok rfl rfl rfl rfl ?_ | refine acode_seq ?_ | refine acode_region ?_)
    refine acode_id rfl (fun e => ?_) (fun e => ?_)
    · have hlt : i < g.forbid.length := by omega
      obtain ⟨f, hx⟩ : ∃ f, g.forbid[i]? = some f := ⟨g.forbid[i], List.getElem?_eq_getElem hlt⟩
      have bad : ¬ forbOk g f → formF g = (-1, 6) := fun h => by
        rw [hF, if_pos (List.any_eq_true.2 ⟨f, List.mem_of_getElem? hx, by rw [decide_eq_false h]; rfl⟩)]
      have good : forbOk g f → (g.forbid.take (i + 1)).any (fun f => !decide (forbOk g f)) = false := fun h => by
        rw [List.take_add_one, hx]
        simp only [Option.toList, List.any_append, hr, List.any_cons, List.any_nil, decide_eq_true h]
        rfl
      repeat (first | refine aops_p tok rfl rfl rfl rfl ?_ | refine acode_seq ?_ | refine acode_region ?_ | refine acode_block ?_ | refine acode_skip ?_ | refine then_n ?_)
      refine aops_ix tok (f3C f) rfl rfl rfl rfl (by omega) (by omega) (by simp [f3C]) (encs_at (e := f3C) (s := 3) (fun _ => rfl) (i := (i : Int).toNat) (by simpa using hx)) rfl rfl rfl ?_
      repeat (refine aops_p tok rfl rfl rfl rfl ?_)
      refine aops_alloc tok rfl rfl rfl rfl rfl rfl fun b => ?_
      repeat (refine aops_stn tok rfl rfl rfl rfl rfl rfl rfl rfl rfl ?_)
      refine aops_pubref0 9 rfl ?_
      refine aops_end ?_
      refine acode_seq ?_
      refine acode_join [(1, .pp (grC g)), (8, .int .i64 i), (210, .bool (!decide (forbOk g f)))] M ?_ ?_
      · refine acode_drawT 63 mixed (by kernel_rfl) (by kernel_rfl) ?_
        repeat' (first | refine seqT_o rfl rfl rfl ?_ | (refine seqT_pd tok rfl rfl rfl rfl ?_ ?_ <;> intro e_) | refine seqT_p tok rfl rfl rfl rfl ?_ | refine seqT_ixa tok rfl rfl rfl (by decide) rfl rfl rfl rfl ?_)
        all_goals try
          (refine SeqT.done ?_
           refine aops_end ?_
           exact ⟨⟨rfl, rfl, by rw [decide_eq_false (fun h : forbOk g f => by obtain ⟨⟨_, _, _, _⟩, _, _⟩ := h; omega)]; rfl, trivial⟩, rfl⟩)
        have a0 : 0 ≤ f.1 := by omega
        have a1 : f.1 < g.rules.length := by omega
        have c0 : 0 ≤ f.2.2 := by omega
        have c1 : f.2.2 < g.rules.length := by omega
        have b0 : 0 ≤ f.2.1 := by omega
        refine seqT_ix tok (ruC (ruleAt g f.1)) rfl rfl rfl rfl a0 a1 (by simp [ruC]) (encs_at (e := ruC) (s := 3) (fun _ => rfl) (ruleAt_at a0 a1)) rfl rfl rfl ?_
        repeat' (first | refine seqT_o rfl rfl rfl ?_ | (refine seqT_pd tok rfl rfl rfl rfl ?_ ?_ <;> intro e_) | refine seqT_p tok rfl rfl rfl rfl ?_ | refine seqT_ixa tok rfl rfl rfl (by decide) rfl rfl rfl rfl ?_)
        all_goals try
          (refine SeqT.done ?_
           refine aops_end ?_
           exact ⟨⟨rfl, rfl, by rw [decide_eq_false (fun h : forbOk g f => by obtain ⟨⟨_, _, _, _⟩, _, _⟩ := h; omega)]; rfl, trivial⟩, rfl⟩)
        have b1 : f.2.1 < (ruleAt g f.1).right.length := by omega
        refine seqT_ix tok (ruC (ruleAt g f.1)) rfl rfl rfl rfl a0 a1 (by simp [ruC]) (encs_at (e := ruC) (s := 3) (fun _ => rfl) (ruleAt_at a0 a1)) rfl rfl rfl ?_
        repeat (first | refine seqT_p tok rfl rfl rfl rfl ?_ | refine seqT_ixa tok rfl rfl rfl (by decide) rfl rfl rfl rfl ?_)
        refine seqT_ix tok [A.int .i64 ((ruleAt g f.1).right.getD f.2.1.toNat 0)] rfl rfl rfl rfl b0 b1 (by simp) (ints_at (int_at b0 b1)) rfl rfl rfl ?_
        repeat (first | refine seqT_p tok rfl rfl rfl rfl ?_ | refine seqT_ixa tok rfl rfl rfl (by decide) rfl rfl rfl rfl ?_)
        refine seqT_ix tok (ruC (ruleAt g f.2.2)) rfl rfl rfl rfl c0 c1 (by simp [ruC]) (encs_at (e := ruC) (s := 3) (fun _ => rfl) (ruleAt_at c0 c1)) rfl rfl rfl ?_
        repeat' (first | (refine seqT_pn tok rfl rfl rfl rfl ?_ ?_ <;> intro e_) | refine seqT_p tok rfl rfl rfl rfl ?_)
        · refine SeqT.done ?_
          refine aops_end ?_
          exact ⟨⟨rfl, rfl, by rw [decide_eq_false (fun h : forbOk g f => e_ h.2.2)]; rfl, trivial⟩, rfl⟩
        · refine SeqT.done ?_
          refine aops_end ?_
          exact ⟨⟨rfl, rfl, by rw [decide_eq_true (show forbOk g f from ⟨⟨a0, a1, c0, c1⟩, ⟨b0, b1⟩, e_⟩)]; rfl, trivial⟩, rfl⟩
      · by_cases hfb : forbOk g f
        · rw [decide_eq_true hfb]
          repeat' (first | refine aops_end ?_ | refine aops_a tok rfl (by omega) (by omega) rfl rfl rfl ?_ | refine aops_p tok rfl rfl rfl rfl ?_ | refine acode_if rfl ?_ | refine acode_region ?_ | refine acode_skip ?_ | refine then_n ?_ | refine block_n ?_)
          exact ⟨i + 1, ⟨by omega, good hfb⟩, by omega, ⟨rfl, rfl, trivial⟩, rfl⟩
        · rw [decide_eq_false hfb, bad hfb]
          repeat' (first | refine aops_end ?_ | refine aops_p tok rfl rfl rfl rfl ?_ | refine acode_it rfl ?_ | refine acode_seq ?_ | refine acode_region ?_)
          refine acode_ret ?_
          repeat (first | refine ret_then ?_ | refine ret_block ?_)
          exact ⟨_, ⟨rfl, rfl⟩, _, _, rfl, resOf_tmp rfl, resOf_tmp rfl⟩
    · have hge : i = g.forbid.length := by omega
      subst hge
      rw [List.take_length] at hr
      rw [hF, hr, if_neg (by simp)]
      refine acode_exit ?_
      repeat (first | refine exit_then ?_ | refine exit_here ?_ | refine then_n ?_)
      repeat (first | refine aops_end ?_ | refine aops_p tok rfl rfl rfl rfl ?_ | refine acode_seq ?_ | refine acode_region ?_)
      refine acode_ret ?_
      skip
      exact ⟨_, ⟨rfl, rfl⟩, _, _, rfl, resOf_tmp rfl, resOf_tmp rfl⟩
end Go.Proofs.Ytnlmfhnjjblhoaa.Ab
/- Chapter 11's and 12's reference, nullable and reachable: pulled out of Set1, Set4, Set8, SetA (printed by genchk.py). No condition. -/
set_option linter.unusedVariables false
set_option linter.unusedSimpArgs false
namespace Go.Proofs.Ytnlmfhnjjblhoaa.Ab
attribute [local irreducible] thenA inBlockA ACode AOps put IntKind.wrap

def bools (l : List Bool) : List A := l.map A.bool
theorem bools_len (l : List Bool) : (bools l).length = l.length := by simp [bools]
theorem bools_get {l : List Bool} {j : Nat} {x : Bool} (h : l[j]? = some x) : (bools l)[j * 1]? = some (A.bool x) := by rw [Nat.mul_one]; simp [bools, h]
theorem bools_zeros (n : Nat) : zerosA [A.bool false] n = bools (List.replicate n false) := by rw [zerosA_one]; simp [bools]
theorem bools_set {l : List Bool} {j : Nat} (h : j < l.length) (x : Bool) : (bools l).take (j * 1) ++ ([A.bool x] ++ (bools l).drop (j * 1 + 1)) = bools (l.set j x) := by
  rw [Nat.mul_one, List.set_eq_take_append_cons_drop, if_pos h]; simp [bools]
def emptyF (g : Gr) (o : List Bool) (l : List Int) : Bool := l.all fun s => decide (isName g s) && o.getD s.toNat false
def nullS (g : Gr) (x : List Bool × Bool) (r : Ru) : List Bool × Bool := if !(x.1.getD r.left.toNat false) && emptyF g x.1 r.right then (x.1.set r.left.toNat true, true) else x
def nullR (g : Gr) (o : List Bool) : List Bool × Bool := g.rules.foldl (nullS g) (o, false)
def nullI (g : Gr) : Nat → List Bool → List Bool
  | 0, o => o
  | k + 1, o => if (nullR g o).2 then nullI g k (nullR g o).1 else (nullR g o).1
def nullF (g : Gr) (n : Nat) : List Bool := nullI g (n + 1) (List.replicate n false)
theorem nullS_len (g : Gr) (x : List Bool × Bool) (r : Ru) : (nullS g x r).1.length = x.1.length := by
  unfold nullS; split <;> simp
theorem nullS_cnt (g : Gr) (x : List Bool × Bool) (r : Ru) (h0 : r.left.toNat < x.1.length) : (nullS g x r).1.count false ≤ x.1.count false ∧ ((nullS g x r).2 = true → x.2 = true ∨ (nullS g x r).1.count false < x.1.count false) := by
  unfold nullS; split
  · rename_i h
    simp only [Bool.and_eq_true, Bool.not_eq_true'] at h
    have hx : x.1[r.left.toNat] = false := by
      have := h.1
      rwa [List.getD_eq_getElem?_getD, List.getElem?_eq_getElem h0] at this
    have hpos : 0 < x.1.count false := List.count_pos_iff.2 (hx ▸ List.getElem_mem h0)
    have : (x.1.set r.left.toNat true).count false < x.1.count false := by
      rw [List.count_set h0, hx]; simp; omega
    exact ⟨by simp only; omega, fun _ => .inr this⟩
  · exact ⟨Nat.le_refl _, fun h => .inl h⟩
theorem nullL_len (g : Gr) : ∀ (rs : List Ru) (x : List Bool × Bool), (rs.foldl (nullS g) x).1.length = x.1.length
  | [], _ => rfl
  | r :: rs, x => by rw [List.foldl_cons, nullL_len g rs, nullS_len]
theorem nullL_cnt (g : Gr) (n : Nat) : ∀ (rs : List Ru) (x : List Bool × Bool), (∀ r ∈ rs, r.left.toNat < n) → x.1.length = n → (rs.foldl (nullS g) x).1.count false ≤ x.1.count false ∧ ((rs.foldl (nullS g) x).2 = true → x.2 = true ∨ (rs.foldl (nullS g) x).1.count false < x.1.count false)
  | [], x, _, _ => ⟨Nat.le_refl _, fun h => .inl h⟩
  | r :: rs, x, h, hl => by
    obtain ⟨a1, a2⟩ := nullS_cnt g x r (by rw [hl]; exact h r (by simp))
    obtain ⟨b1, b2⟩ := nullL_cnt g n rs (nullS g x r) (fun r hr => h r (by simp [hr])) (by rw [nullS_len, hl])
    rw [List.foldl_cons]
    refine ⟨Nat.le_trans b1 a1, fun h => ?_⟩
    rcases b2 h with h | h
    · rcases a2 h with h | h
      · exact .inl h
      · exact .inr (by omega)
    · exact .inr (by omega)
def fewB (g : Gr) : Prop := g.rules.length ≤ 70 ∧ g.forbid.length ≤ 250 ∧ g.rc.length ≤ 100 ∧ g.kc.length ≤ 100
instance (g : Gr) : Decidable (fewB g) := inferInstanceAs (Decidable (_ ∧ _ ∧ _ ∧ _))
theorem few_calls {g : Gr} (M : List Ob) : ACalls Try.prog 24 [grA g] M (fun r M' => r = .bool (decide (fewB g)) ∧ M' = M) := by
  refine acalls_of_code 25 Try.func24 rfl rfl rfl ?_
  repeat (first | refine acode_seq ?_ | refine acode_region ?_)
  refine aops_boxf rfl rfl rfl rfl rfl rfl rfl ?_
  repeat' (first | refine aops_end ?_ | refine aops_o rfl rfl rfl ?_ | (refine aops_pd tok rfl rfl rfl rfl ?_ ?_ <;> intro e_) | refine aops_p tok rfl rfl rfl rfl ?_ | refine acode_seq ?_ | refine acode_region ?_)
  all_goals
    refine acode_ret ?_
    skip
    exact ⟨.bool (decide (fewB g)), ⟨rfl, rfl⟩, resOf_tmp (by first | exact bt (by unfold fewB; omega) | exact bf (by unfold fewB; omega))⟩
def fixI {α : Type} (R : α → α × Bool) : Nat → α → α
  | 0, x => x
  | q + 1, x => if (R x).2 then fixI R q (R x).1 else (R x).1
theorem fixI_done {α : Type} {R : α → α × Bool} {m : α → Nat} {p : α → Prop} (hp : ∀ x, p x → p (R x).1) (hm : ∀ x, p x → (R x).2 = true → m (R x).1 < m x) : ∀ (q : Nat) (x : α), p x → m x < q → ∃ y, p y ∧ (R y).2 = false ∧ fixI R q x = (R y).1
  | 0, x, _, h => by omega
  | q + 1, x, h, hq => by
    rw [fixI]
    cases hb : (R x).2 with
    | true => exact fixI_done hp hm q _ (hp x h) (by have := hm x h hb; omega)
    | false => exact ⟨x, h, hb, rfl⟩
theorem fixI_ok {α : Type} {R : α → α × Bool} {p : α → Prop} (hp : ∀ x, p x → p (R x).1) : ∀ (q : Nat) (x : α), p x → p (fixI R q x)
  | 0, x, h => h
  | q + 1, x, h => by
    rw [fixI]
    split
    · exact fixI_ok hp q _ (hp x h)
    · exact hp x h
theorem formed_calls {g : Gr} (hg : GrOk g) (M : List Ob) : ACalls Try.prog 76 [grA g] M (fun r M' => r = .bool (decide ((formF g).2 = 0)) ∧ M' = M) := by
  refine acalls_of_code 12 Try.func76 rfl rfl rfl ?_
  repeat (first | refine acode_seq ?_ | refine acode_region ?_)
  refine aops_boxf rfl rfl rfl rfl rfl rfl rfl ?_
  repeat (first | refine aops_end ?_ | refine aops_p tok rfl rfl rfl rfl ?_ | refine acode_seq ?_ | refine acode_region ?_)
  refine aops_callx Try.func55 rfl rfl rfl rfl (rform_calls hg _) rfl rfl rfl ?_
  repeat' (first | refine aops_end ?_ | (refine aops_pd tok rfl rfl rfl rfl ?_ ?_ <;> intro e_) | refine aops_p tok rfl rfl rfl rfl ?_ | refine acode_seq ?_ | refine acode_region ?_)
  · refine acode_ret ?_
    skip
    exact ⟨.bool (decide ((formF g).2 = 0)), ⟨rfl, rfl⟩, resOf_tmp (bt e_)⟩
  · refine acode_ret ?_
    skip
    exact ⟨.bool (decide ((formF g).2 = 0)), ⟨rfl, rfl⟩, resOf_tmp (bf e_)⟩
def nz (g : Gr) (o : List Bool) (r : Ru) (q : Nat) : Bool := !(o.getD r.left.toNat false) && emptyF g o (r.right.take q)
theorem nz_end {g : Gr} {o : List Bool} {r : Ru} : nz g o r r.right.length = (!(o.getD r.left.toNat false) && emptyF g o r.right) := by unfold nz; rw [List.take_length]
theorem nz_false {g : Gr} {o : List Bool} {r : Ru} {q : Nat} (h : nz g o r q = false) : nz g o r r.right.length = false := by
  cases h2 : nz g o r r.right.length with
  | false => rfl
  | true =>
    unfold nz emptyF at h h2
    rw [List.take_length] at h2
    simp only [Bool.and_eq_true, List.all_eq_true] at h2
    have : (!(o.getD r.left.toNat false) && (r.right.take q).all fun s => decide (isName g s) && o.getD s.toNat false) = true := by
      simp only [Bool.and_eq_true, List.all_eq_true]
      exact ⟨h2.1, fun s hs => h2.2 s (List.mem_of_mem_take hs)⟩
    rw [this] at h
    cases h
theorem nz_succ {g : Gr} {o : List Bool} {r : Ru} {q : Nat} {s : Int} (hs : r.right[q]? = some s) : nz g o r (q + 1) = (nz g o r q && (decide (isName g s) && o.getD s.toNat false)) := by
  unfold nz emptyF
  rw [List.take_add_one, hs, List.all_append]
  simp [Bool.and_assoc]
set_option maxHeartbeats 4000000 in
theorem rnullable_calls {g : Gr} {n : Nat} (hg : GrOk g) (h : (formF g).2 = 0) (hn : g.names = n) (hn2 : n ≤ 1000) (hw : ∀ r ∈ g.rules, isName g r.left) (hsy : ∀ r ∈ g.rules, ∀ s ∈ r.right, isSym g s) (M : List Ob) :
    ACalls Try.prog 78 [grA g] M (fun r M' => r = .psl n (bools (nullF g n)) ∧ M' = M) := by
  have hrl := hg.rl
  have hlt : ∀ r ∈ g.rules, r.left.toNat < n := fun r hr => by have := hw r hr; unfold isName at this; omega
  refine acalls_of_code 66 Try.func78 rfl rfl rfl ?_
  repeat (first | refine acode_seq ?_ | refine acode_region ?_)
  refine aops_boxf rfl rfl rfl rfl rfl rfl rfl ?_
  repeat (first | refine aops_end ?_ | refine aops_p tok rfl rfl rfl rfl ?_ | refine acode_seq ?_ | refine acode_region ?_)
  refine aops_callx Try.func76 rfl rfl rfl rfl (formed_calls hg _) rfl rfl rfl ?_
  rw [decide_eq_true h]
  repeat' (first | refine aops_end ?_ | refine aops_p tok rfl rfl rfl rfl ?_ | refine acode_if rfl ?_ | refine acode_seq ?_ | refine acode_region ?_ | refine acode_skip ?_ | refine then_n ?_)
  refine aops_mk tok n rfl rfl rfl rfl hn rfl (by show _ * 1 ≤ _; omega) (by omega) rfl rfl rfl fun bo => ?_
  repeat (first | refine aops_end ?_ | refine aops_p tok rfl rfl rfl rfl ?_ | refine acode_seq ?_ | refine acode_region ?_ | refine acode_block ?_)
  refine acode_loopS (ι := Nat × List Bool × Bool) (fun p => [(1, .pp (grC g)), (3, .own (some bo) n n), (4, .bool p.2.2)]) (fun p => ⟨some bo, n * 1, bools p.2.1⟩ :: M) (fun p => if p.2.2 then p.1 + 1 else 0) (fun p => p.2.1.length = n ∧ (p.2.2 = true → nullI g p.1 p.2.1 = nullF g n ∧ p.2.1.count false < p.1) ∧ (p.2.2 = false → p.2.1 = nullF g n)) (n + 1, List.replicate n false, true) ⟨by simp, fun _ => ⟨rfl, by simp⟩, fun h => by cases h⟩ ⟨rfl, rfl, rfl, trivial⟩ (by simp only; rw [← bools_zeros]; rfl) ?_
  rintro ⟨k, o, more⟩ ⟨hol, hm, hd⟩
  simp only at hol hm hd ⊢
  cases more with
  | false =>
    have hfin := hd rfl
    repeat' (first | refine aops_end ?_ | refine aops_p tok rfl rfl rfl rfl ?_ | refine acode_if rfl ?_ | refine acode_seq ?_ | refine acode_region ?_)
    refine acode_exit ?_
    repeat (first | refine exit_then ?_ | refine exit_here ?_ | refine then_n ?_)
    repeat (first | refine aops_end ?_ | refine aops_p tok rfl rfl rfl rfl ?_ | refine acode_seq ?_ | refine acode_region ?_)
    refine acode_pub0 2 1 rfl rfl (by rw [bools_len, hol, Nat.mul_one]) rfl ?_
    refine acode_ret ?_
    skip
    exact ⟨_, ⟨by rw [hfin]; rfl, rfl⟩, resOf_tmp rfl⟩
  | true =>
    obtain ⟨hI, hcnt⟩ := hm rfl
    clear hm hd
    obtain ⟨k', rfl⟩ : ∃ k', k = k' + 1 := ⟨k - 1, by omega⟩
    have hRl : (nullR g o).1.length = n := by unfold nullR; rw [nullL_len]; exact hol
    have hRc := nullL_cnt g n g.rules (o, false) hlt hol
    change (nullR g o).1.count false ≤ _ ∧ ((nullR g o).2 = true → _) at hRc
    simp only [nullI] at hI
    repeat' (first | refine aops_end ?_ | refine aops_p tok rfl rfl rfl rfl ?_ | refine acode_it rfl ?_ | refine acode_seq ?_ | refine acode_region ?_ | refine acode_block ?_ | refine acode_skip ?_ | refine then_n ?_)
    refine acode_loopS (ι := Nat × List Bool × Bool) (fun p => [(1, .pp (grC g)), (3, .own (some bo) n n), (4, .bool p.2.2), (5, .int .i64 p.1)]) (fun p => ⟨some bo, n * 1, bools p.2.1⟩ :: M) (fun p => g.rules.length - p.1) (fun p => p.1 ≤ g.rules.length ∧ p.2.1.length = n ∧ (g.rules.drop p.1).foldl (nullS g) (p.2.1, p.2.2) = nullR g o) (0, o, false) ⟨Nat.zero_le _, hol, rfl⟩ ⟨rfl, rfl, rfl, rfl, trivial⟩ rfl ?_
    rintro ⟨q, o1, m1⟩ ⟨hq, ho1, hfold⟩
    simp only at hq ho1 hfold ⊢
    repeat (first | refine aops_end ?_ | refine aops_p tok rfl rfl rfl rfl ?_ | refine acode_seq ?_ | refine acode_region ?_)
    refine acode_id rfl (fun e => ?_) (fun e => ?_)
    · have hql : q < g.rules.length := by omega
      obtain ⟨r, hr⟩ : ∃ r, g.rules[q]? = some r := ⟨g.rules[q], List.getElem?_eq_getElem hql⟩
      have hrm := List.mem_of_getElem? hr
      have hdr : g.rules.drop q = r :: g.rules.drop (q + 1) := by
        rw [List.drop_eq_getElem_cons hql]
        rw [List.getElem?_eq_getElem hql] at hr
        rw [Option.some.inj hr]
      rw [hdr, List.foldl_cons] at hfold
      obtain ⟨hr0, hr1⟩ := hw r hrm
      have hl1 := hlt r hrm
      have hrr := (hg.rr r hrm).1
      have hrg := (hg.rr r hrm).2
      obtain ⟨x, hx⟩ : ∃ x, o1[r.left.toNat]? = some x := ⟨o1[r.left.toNat]'(by omega), List.getElem?_eq_getElem (by omega)⟩
      have hgd : o1.getD r.left.toNat false = x := by rw [List.getD_eq_getElem?_getD, hx]; rfl
      repeat (first | refine aops_p tok rfl rfl rfl rfl ?_ | refine acode_seq ?_ | refine acode_region ?_ | refine acode_block ?_ | refine acode_skip ?_ | refine then_n ?_)
      refine aops_ix tok (ruC r) rfl rfl rfl rfl (by omega) (by omega) (by simp [ruC]) (encs_at (e := ruC) (s := 3) (fun _ => rfl) (i := (q : Int).toNat) (by simpa using hr)) rfl rfl rfl ?_
      repeat (refine aops_p tok rfl rfl rfl rfl ?_)
      refine aops_alloc tok rfl rfl rfl rfl rfl rfl fun ba => ?_
      refine aops_stn tok rfl rfl rfl rfl rfl rfl rfl rfl rfl ?_
      refine aops_pubref0 6 rfl ?_
      repeat (first | refine aops_end ?_ | refine aops_p tok rfl rfl rfl rfl ?_ | refine acode_seq ?_ | refine acode_region ?_)
      refine aops_ixo tok rfl rfl rfl rfl hr0 (by omega) rfl rfl rfl ?_
      refine aops_ld tok 0 (y := .bool x) rfl rfl rfl rfl (by rw [headed_eq]; exact bools_get hx) rfl rfl rfl ?_
      have h0 : nz g o1 r 0 = !x := by unfold nz emptyF; rw [hgd]; simp
      repeat (refine aops_p tok rfl rfl rfl rfl ?_)
      refine aops_end ?_
      refine acode_seq ?_
      refine acode_join [(1, .pp (grC g)), (3, .own (some bo) n n), (4, .bool m1), (5, .int .i64 q), (6, .pp (ruC r)), (7, .bool (nz g o1 r r.right.length))] (⟨some bo, n * 1, bools o1⟩ :: M) ?_ ?_
      · repeat (first | refine aops_end ?_ | refine aops_p tok rfl rfl rfl rfl ?_ | refine acode_seq ?_ | refine acode_region ?_ | refine acode_block ?_)
        refine acode_loopS (ι := Nat) (fun j => [(1, .pp (grC g)), (3, .own (some bo) n n), (4, .bool m1), (5, .int .i64 q), (6, .pp (ruC r)), (7, .bool (nz g o1 r j)), (8, .int .i64 j)]) (fun _ => ⟨some bo, n * 1, bools o1⟩ :: M) (fun j => r.right.length - j) (fun j => j ≤ r.right.length) 0 (Nat.zero_le _) ⟨rfl, rfl, rfl, rfl, rfl, by rw [h0]; rfl, rfl, trivial⟩ rfl ?_
        intro j hj
        cases hok : nz g o1 r j with
        | false =>
          repeat' (first | refine aops_end ?_ | refine aops_o rfl rfl rfl ?_ | (refine aops_pd tok rfl rfl rfl rfl ?_ ?_ <;> intro e_) | refine aops_p tok rfl rfl rfl rfl ?_ | refine acode_if rfl ?_ | refine acode_seq ?_ | refine acode_region ?_)
          all_goals
            refine acode_exit ?_
            repeat (first | refine exit_then ?_ | refine exit_here ?_ | refine then_n ?_)
            exact ⟨⟨rfl, rfl, rfl, rfl, rfl, by rw [nz_false hok]; rfl, trivial⟩, rfl⟩
        | true =>
          by_cases hjl : j < r.right.length
          · obtain ⟨s, hsx⟩ : ∃ s, r.right[j]? = some s := ⟨r.right[j]'(by omega), List.getElem?_eq_getElem (by omega)⟩
            have hsu := nz_succ (g := g) (o := o1) hsx
            have hsm := List.mem_of_getElem? hsx
            have hss := hsy r hrm s hsm
            unfold isSym isKind at hss
            rw [hok, Bool.true_and] at hsu
            repeat' (first | refine aops_end ?_ | refine aops_pbt tok rfl (by first | omega | decide) rfl rfl rfl ?_ | refine aops_p tok rfl rfl rfl rfl ?_ | refine acode_it rfl ?_ | refine acode_seq ?_ | refine acode_region ?_ | refine acode_block ?_ | refine acode_skip ?_ | refine then_n ?_)
            refine aops_ix tok [A.int .i64 s] rfl rfl rfl rfl (by omega) (by omega) (by simp) (ints_at (j := j) (by simpa using hsx)) rfl rfl rfl ?_
            by_cases hs0 : 0 ≤ s
            · have hnm : isName g s := by unfold isName; unfold isName at hss; omega
              obtain ⟨n0, n1⟩ := id hnm
              obtain ⟨z, hz⟩ : ∃ z, o1[s.toNat]? = some z := ⟨o1[s.toNat]'(by omega), List.getElem?_eq_getElem (by omega)⟩
              have hzd : o1.getD s.toNat false = z := by rw [List.getD_eq_getElem?_getD, hz]; rfl
              rw [decide_eq_true hnm, hzd, Bool.true_and] at hsu
              repeat' (first | refine aops_pbt tok rfl (by first | omega | decide) rfl rfl rfl ?_ | refine aops_p tok rfl rfl rfl rfl ?_)
              refine aops_ix tok [A.int .i64 s] rfl rfl rfl rfl (by omega) (by omega) (by simp) (ints_at (j := j) (by simpa using hsx)) rfl rfl rfl ?_
              repeat (refine aops_p tok rfl rfl rfl rfl ?_)
              refine aops_ixo tok rfl rfl rfl rfl hs0 (by omega) rfl rfl rfl ?_
              refine aops_ld tok 0 (y := .bool z) rfl rfl rfl rfl (by rw [headed_eq]; exact bools_get hz) rfl rfl rfl ?_
              repeat (first | refine aops_end ?_ | refine aops_endb ?_ | refine aops_a tok rfl (by omega) (by omega) rfl rfl rfl ?_ | refine aops_p tok rfl rfl rfl rfl ?_ | refine acode_region ?_ | refine then_n ?_)
              exact ⟨j + 1, by omega, by omega, ⟨rfl, rfl, rfl, rfl, rfl, by rw [hsu]; rfl, rfl, trivial⟩, rfl⟩
            · rw [decide_eq_false (by unfold isName; omega), Bool.false_and] at hsu
              repeat' (first | refine aops_end ?_ | refine aops_endb ?_ | refine aops_o rfl rfl rfl ?_ | refine aops_a tok rfl (by omega) (by omega) rfl rfl rfl ?_ | refine aops_pbf tok rfl (by first | omega | decide) rfl rfl rfl ?_ | refine aops_p tok rfl rfl rfl rfl ?_ | refine acode_region ?_ | refine then_n ?_)
              exact ⟨j + 1, by omega, by omega, ⟨rfl, rfl, rfl, rfl, rfl, by rw [hsu]; rfl, rfl, trivial⟩, rfl⟩
          · obtain rfl : j = r.right.length := by omega
            repeat' (first | refine aops_end ?_ | refine aops_o rfl rfl rfl ?_ | refine aops_pbf tok rfl (by first | omega | decide) rfl rfl rfl ?_ | refine aops_p tok rfl rfl rfl rfl ?_ | refine acode_if rfl ?_ | refine acode_seq ?_ | refine acode_region ?_)
            refine acode_exit ?_
            repeat (first | refine exit_then ?_ | refine exit_here ?_ | refine then_n ?_)
            exact ⟨⟨rfl, rfl, rfl, rfl, rfl, by rw [hok]; rfl, trivial⟩, rfl⟩
      have hne := nz_end (g := g) (o := o1) (r := r)
      cases hE : nz g o1 r r.right.length with
      | true =>
        have hst : nullS g (o1, m1) r = (o1.set r.left.toNat true, true) := by unfold nullS; rw [if_pos (by rw [← hne, hE])]
        rw [hst] at hfold
        repeat' (first | refine aops_end ?_ | refine aops_p tok rfl rfl rfl rfl ?_ | refine acode_it rfl ?_ | refine acode_seq ?_ | refine acode_region ?_)
        refine aops_ixo tok rfl rfl rfl rfl hr0 (by omega) rfl rfl rfl ?_
        refine aops_sto tok (bools (o1.set r.left.toNat true)) rfl rfl rfl rfl rfl (by rw [bools_len, ho1]; show r.left.toNat * 1 + 1 ≤ _; omega) (bools_set (by omega) true) rfl rfl ?_
        repeat (first | refine aops_end ?_ | refine aops_endb ?_ | refine aops_a tok rfl (by omega) (by omega) rfl rfl rfl ?_ | refine aops_p tok rfl rfl rfl rfl ?_ | refine acode_region ?_ | refine then_n ?_)
        exact ⟨(q + 1, o1.set r.left.toNat true, true), ⟨by simp; omega, by simp [ho1], hfold⟩, by simp; omega, ⟨rfl, rfl, rfl, rfl, trivial⟩, rfl⟩
      | false =>
        have hst : nullS g (o1, m1) r = (o1, m1) := by unfold nullS; rw [if_neg (by rw [← hne, hE]; simp)]
        rw [hst] at hfold
        repeat' (first | refine aops_end ?_ | refine aops_a tok rfl (by omega) (by omega) rfl rfl rfl ?_ | refine aops_p tok rfl rfl rfl rfl ?_ | refine acode_if rfl ?_ | refine acode_seq ?_ | refine acode_region ?_ | refine acode_skip ?_ | refine then_n ?_ | refine block_n ?_)
        exact ⟨(q + 1, o1, m1), ⟨by simp; omega, ho1, hfold⟩, by simp; omega, ⟨rfl, rfl, rfl, rfl, trivial⟩, rfl⟩
    · have hge : q = g.rules.length := by omega
      subst hge
      rw [List.drop_length] at hfold
      simp only [List.foldl_nil] at hfold
      refine acode_exit ?_
      repeat (first | refine exit_then ?_ | refine exit_here ?_ | refine then_n ?_ | refine block_n ?_)
      skip
      refine ⟨(k', o1, m1), ⟨ho1, fun h => ?_, fun h => ?_⟩, ?_, ⟨rfl, rfl, rfl, trivial⟩, rfl⟩
      · simp only at h
        have h2 : (nullR g o).2 = true := by rw [← hfold]; exact h
        rw [if_pos h2] at hI
        refine ⟨by rw [← hI, ← hfold], ?_⟩
        rcases hRc.2 h2 with h3 | h3
        · cases h3
        · change (nullR g o).1.count false < o.count false at h3
          rw [← hfold] at h3; simp only at h3 ⊢; omega
      · simp only at h
        have h2 : (nullR g o).2 = false := by rw [← hfold]; exact h
        rw [h2] at hI
        rw [if_neg (by simp)] at hI
        rw [← hI, ← hfold]
      · simp only
        cases m1 <;> simp
def Gw {α : Type} (p : α → Prop) (m : α → Nat) (x y : α × Bool) : Prop := p x.1 → p y.1 ∧ m y.1 ≤ m x.1 ∧ (y.2 = true → x.2 = true ∨ m y.1 < m x.1)
theorem gw_refl {α : Type} {p : α → Prop} {m : α → Nat} (x : α × Bool) : Gw p m x x := fun h => ⟨h, Nat.le_refl _, fun h => .inl h⟩
theorem gw_trans {α : Type} {p : α → Prop} {m : α → Nat} {x y z : α × Bool} (h1 : Gw p m x y) (h2 : Gw p m y z) : Gw p m x z := fun h => by
  obtain ⟨a1, a2, a3⟩ := h1 h
  obtain ⟨b1, b2, b3⟩ := h2 a1
  refine ⟨b1, by omega, fun h => ?_⟩
  rcases b3 h with h | h
  · rcases a3 h with h | h
    · exact .inl h
    · exact .inr (by omega)
  · exact .inr (by omega)
theorem gw_fold {α β : Type} {p : α → Prop} {m : α → Nat} {f : α × Bool → β → α × Bool} : ∀ (l : List β) (x : α × Bool), (∀ b ∈ l, ∀ x, Gw p m x (f x b)) → Gw p m x (l.foldl f x)
  | [], x, _ => gw_refl x
  | b :: l, x, h => gw_trans (h b (by simp) x) (gw_fold l _ fun b hb => h b (by simp [hb]))
def reach1 (g : Gr) (r : Ru) (x : List Bool × Bool) (s : Int) : List Bool × Bool := if x.1.getD r.left.toNat false = true ∧ isName g s ∧ x.1.getD s.toNat false = false then (x.1.set s.toNat true, true) else x
def reachS (g : Gr) (x : List Bool × Bool) (r : Ru) : List Bool × Bool := r.right.foldl (reach1 g r) x
def reachR (g : Gr) (o : List Bool) : List Bool × Bool := g.rules.foldl (reachS g) (o, false)
def reach0 (g : Gr) (n : Nat) : List Bool := (List.replicate n false).set g.start.toNat true
def reachF (g : Gr) (n : Nat) : List Bool := fixI (reachR g) (n + 1) (reach0 g n)
theorem reach0_len (g : Gr) (n : Nat) : (reach0 g n).length = n := by simp [reach0]
theorem reach1_gw {g : Gr} {n : Nat} (hn : g.names = n) (r : Ru) (x : List Bool × Bool) (s : Int) : Gw (fun o => o.length = n) (fun o => o.count false) x (reach1 g r x s) := by
  intro hx
  unfold reach1
  split
  · rename_i h
    obtain ⟨h1, h2, h3⟩ := h
    unfold isName at h2
    have h0 : s.toNat < x.1.length := by omega
    have hxs : x.1[s.toNat] = false := by
      rwa [List.getD_eq_getElem?_getD, List.getElem?_eq_getElem h0] at h3
    have hpos : 0 < x.1.count false := List.count_pos_iff.2 (hxs ▸ List.getElem_mem h0)
    have : (x.1.set s.toNat true).count false < x.1.count false := by
      rw [List.count_set h0, hxs]; simp; omega
    exact ⟨by simpa using hx, by simp only; omega, fun _ => .inr this⟩
  · exact gw_refl (p := fun o => o.length = n) (m := fun o => o.count false) x hx
theorem reachR_gw {g : Gr} {n : Nat} (hn : g.names = n) (o : List Bool) : Gw (fun o => o.length = n) (fun o => o.count false) (o, false) (reachR g o) :=
  gw_fold _ _ fun r _ x => gw_fold _ _ fun s _ y => reach1_gw hn r y s
theorem reach1_skip {g : Gr} {r : Ru} : ∀ (l : List Int) (x : List Bool × Bool), x.1.getD r.left.toNat false = false → l.foldl (reach1 g r) x = x
  | [], x, h => rfl
  | s :: l, x, h => by
    have : reach1 g r x s = x := by unfold reach1; rw [if_neg (by rw [h]; simp)]
    rw [List.foldl_cons, this]; exact reach1_skip l x h
theorem reachF_len {g : Gr} {n : Nat} (hn : g.names = n) : (reachF g n).length = n := fixI_ok (p := fun o => o.length = n) (fun x h => (reachR_gw hn x h).1) _ _ (reach0_len g n)
theorem reach0_cnt (g : Gr) (n : Nat) : (reach0 g n).count false < n + 1 := Nat.lt_succ_of_le (by have := List.count_le_length (a := false) (l := reach0 g n); rwa [reach0_len] at this)
set_option maxHeartbeats 8000000 in
theorem rreach_calls {g : Gr} {n : Nat} (hg : GrOk g) (h : (formF g).2 = 0) (hn : g.names = n) (hn2 : n ≤ 1000) (hst : isName g g.start) (hw : ∀ r ∈ g.rules, isName g r.left) (hsy : ∀ r ∈ g.rules, ∀ s ∈ r.right, isSym g s) (M : List Ob) :
    ACalls Try.prog 56 [grA g] M (fun r M' => r = .psl n (bools (reachF g n)) ∧ M' = M) := by
  have hrl := hg.rl
  obtain ⟨s0, s1⟩ := id hst
  refine acalls_of_code 70 Try.func56 rfl rfl rfl ?_
  repeat (first | refine acode_seq ?_ | refine acode_region ?_)
  refine aops_boxf rfl rfl rfl rfl rfl rfl rfl ?_
  repeat (first | refine aops_end ?_ | refine aops_p tok rfl rfl rfl rfl ?_ | refine acode_seq ?_ | refine acode_region ?_)
  refine aops_callx Try.func76 rfl rfl rfl rfl (formed_calls hg _) rfl rfl rfl ?_
  rw [decide_eq_true h]
  repeat' (first | refine aops_end ?_ | refine aops_p tok rfl rfl rfl rfl ?_ | refine acode_if rfl ?_ | refine acode_seq ?_ | refine acode_region ?_ | refine acode_skip ?_ | refine then_n ?_)
  refine aops_mk tok n rfl rfl rfl rfl hn rfl (by show _ * 1 ≤ _; omega) (by omega) rfl rfl rfl fun bo => ?_
  repeat (first | refine aops_end ?_ | refine aops_p tok rfl rfl rfl rfl ?_ | refine acode_seq ?_ | refine acode_region ?_)
  refine aops_ixo tok rfl rfl rfl rfl s0 (by omega) rfl rfl rfl ?_
  refine aops_sto tok (bools (reach0 g n)) rfl rfl rfl rfl rfl (by show g.start.toNat * 1 + 1 ≤ (zerosA [A.bool false] n).length; rw [bools_zeros, bools_len, List.length_replicate]; omega) (by show (zerosA [A.bool false] n).take (g.start.toNat * 1) ++ ([A.bool true] ++ (zerosA [A.bool false] n).drop (g.start.toNat * 1 + 1)) = _; rw [bools_zeros]; exact bools_set (by simp; omega) true) rfl rfl ?_
  have hR0 : fixI (reachR g) (n + 1) (reach0 g n) = reachF g n := rfl
  have hlen := reachF_len (g := g) hn
  have h0c := reach0_cnt g n
  have h0l := reach0_len g n
  generalize reachF g n = fin at *
  generalize reach0 g n = o0 at *
  repeat (first | refine aops_end ?_ | refine aops_p tok rfl rfl rfl rfl ?_ | refine acode_seq ?_ | refine acode_region ?_ | refine acode_block ?_)
  refine acode_loopS (ι := Nat × List Bool × Bool) (fun p => [(1, .pp (grC g)), (3, .own (some bo) n n), (4, .bool p.2.2)]) (fun p => ⟨some bo, n * 1, bools p.2.1⟩ :: M) (fun p => if p.2.2 then p.1 + 1 else 0) (fun p => p.2.1.length = n ∧ (p.2.2 = true → fixI (reachR g) p.1 p.2.1 = fin ∧ p.2.1.count false < p.1) ∧ (p.2.2 = false → p.2.1 = fin)) (n + 1, o0, true) ⟨h0l, fun _ => ⟨hR0, h0c⟩, fun h => by cases h⟩ ⟨rfl, rfl, rfl, trivial⟩ rfl ?_
  rintro ⟨q, o, more⟩ ⟨hol, hm, hd⟩
  simp only at hol hm hd ⊢
  cases more with
  | false =>
    obtain rfl := hd rfl
    repeat' (first | refine aops_end ?_ | refine aops_p tok rfl rfl rfl rfl ?_ | refine acode_if rfl ?_ | refine acode_seq ?_ | refine acode_region ?_)
    refine acode_exit ?_
    repeat (first | refine exit_then ?_ | refine exit_here ?_ | refine then_n ?_)
    repeat (first | refine aops_end ?_ | refine aops_p tok rfl rfl rfl rfl ?_ | refine acode_seq ?_ | refine acode_region ?_)
    refine acode_pub0 2 1 rfl rfl (by rw [bools_len, hol, Nat.mul_one]) rfl ?_
    refine acode_ret ?_
    skip
    exact ⟨_, ⟨rfl, rfl⟩, resOf_tmp rfl⟩
  | true =>
    obtain ⟨hI, hcnt⟩ := hm rfl
    clear hm hd
    obtain ⟨q', rfl⟩ : ∃ q', q = q' + 1 := ⟨q - 1, by omega⟩
    obtain ⟨hRl, hR1, hR2⟩ := reachR_gw hn o hol
    simp only [fixI] at hI
    simp only at hR1 hR2 hRl
    repeat' (first | refine aops_end ?_ | refine aops_p tok rfl rfl rfl rfl ?_ | refine acode_it rfl ?_ | refine acode_seq ?_ | refine acode_region ?_ | refine acode_block ?_ | refine acode_skip ?_ | refine then_n ?_)
    refine acode_loopS (ι := Nat × List Bool × Bool) (fun p => [(1, .pp (grC g)), (3, .own (some bo) n n), (4, .bool p.2.2), (5, .int .i64 p.1)]) (fun p => ⟨some bo, n * 1, bools p.2.1⟩ :: M) (fun p => g.rules.length - p.1) (fun p => p.1 ≤ g.rules.length ∧ p.2.1.length = n ∧ (g.rules.drop p.1).foldl (reachS g) (p.2.1, p.2.2) = reachR g o) (0, o, false) ⟨Nat.zero_le _, hol, rfl⟩ ⟨rfl, rfl, rfl, rfl, trivial⟩ rfl ?_
    rintro ⟨j, o1, m1⟩ ⟨hj, ho1, hfold⟩
    simp only at hj ho1 hfold ⊢
    repeat (first | refine aops_end ?_ | refine aops_p tok rfl rfl rfl rfl ?_ | refine acode_seq ?_ | refine acode_region ?_)
    refine acode_id rfl (fun e => ?_) (fun e => ?_)
    · have hjl : j < g.rules.length := by omega
      obtain ⟨r, hr⟩ : ∃ r, g.rules[j]? = some r := ⟨g.rules[j], List.getElem?_eq_getElem hjl⟩
      have hrm := List.mem_of_getElem? hr
      have hdr : g.rules.drop j = r :: g.rules.drop (j + 1) := by
        rw [List.drop_eq_getElem_cons hjl]
        rw [List.getElem?_eq_getElem hjl] at hr
        rw [Option.some.inj hr]
      rw [hdr, List.foldl_cons] at hfold
      obtain ⟨hr0, hr1⟩ := hw r hrm
      have hrr := (hg.rr r hrm).1
      repeat (first | refine aops_p tok rfl rfl rfl rfl ?_ | refine acode_seq ?_ | refine acode_region ?_ | refine acode_block ?_ | refine acode_skip ?_ | refine then_n ?_)
      refine aops_ix tok (ruC r) rfl rfl rfl rfl (by omega) (by omega) (by simp [ruC]) (encs_at (e := ruC) (s := 3) (fun _ => rfl) (i := (j : Int).toNat) (by simpa using hr)) rfl rfl rfl ?_
      repeat (refine aops_p tok rfl rfl rfl rfl ?_)
      refine aops_alloc tok rfl rfl rfl rfl rfl rfl fun ba => ?_
      refine aops_stn tok rfl rfl rfl rfl rfl rfl rfl rfl rfl ?_
      refine aops_pubref0 6 rfl ?_
      repeat (first | refine aops_end ?_ | refine aops_p tok rfl rfl rfl rfl ?_ | refine acode_seq ?_ | refine acode_region ?_ | refine acode_block ?_)
      refine acode_loopS (ι := Nat × List Bool × Bool) (fun p => [(1, .pp (grC g)), (3, .own (some bo) n n), (4, .bool p.2.2), (5, .int .i64 j), (6, .pp (ruC r)), (7, .int .i64 p.1)]) (fun p => ⟨some bo, n * 1, bools p.2.1⟩ :: M) (fun p => r.right.length - p.1) (fun p => p.1 ≤ r.right.length ∧ p.2.1.length = n ∧ (r.right.drop p.1).foldl (reach1 g r) (p.2.1, p.2.2) = reachS g (o1, m1) r) (0, o1, m1) ⟨Nat.zero_le _, ho1, rfl⟩ ⟨rfl, rfl, rfl, rfl, rfl, rfl, trivial⟩ rfl ?_
      rintro ⟨i, o2, m2⟩ ⟨hi, ho2, hf2⟩
      simp only at hi ho2 hf2 ⊢
      by_cases hil : i < r.right.length
      · obtain ⟨s, hs⟩ : ∃ s, r.right[i]? = some s := ⟨r.right[i], List.getElem?_eq_getElem hil⟩
        have hds : r.right.drop i = s :: r.right.drop (i + 1) := by
          rw [List.drop_eq_getElem_cons hil]
          rw [List.getElem?_eq_getElem hil] at hs
          rw [Option.some.inj hs]
        have hss := hsy r hrm s (List.mem_of_getElem? hs)
        obtain ⟨x, hx⟩ : ∃ x, o2[r.left.toNat]? = some x := ⟨o2[r.left.toNat]'(by omega), List.getElem?_eq_getElem (by omega)⟩
        have hgd : o2.getD r.left.toNat false = x := by rw [List.getD_eq_getElem?_getD, hx]; rfl
        repeat' (first | refine aops_pbt tok rfl (by first | omega | decide) rfl rfl rfl ?_ | refine aops_p tok rfl rfl rfl rfl ?_ | refine acode_seq ?_ | refine acode_region ?_)
        refine aops_ixo tok rfl rfl rfl rfl hr0 (by omega) rfl rfl rfl ?_
        refine aops_ld tok 0 (y := .bool x) rfl rfl rfl rfl (by rw [headed_eq]; exact bools_get hx) rfl rfl rfl ?_
        cases x with
        | false =>
          rw [reach1_skip _ _ hgd] at hf2
          rw [← hf2] at hfold
          repeat' (first | refine aops_end ?_ | refine aops_p tok rfl rfl rfl rfl ?_ | refine acode_if rfl ?_)
          refine acode_exit ?_
          repeat (first | refine exit_then ?_ | refine exit_here ?_ | refine then_n ?_ | refine block_n ?_)
          repeat (first | refine aops_end ?_ | refine aops_a tok rfl (by omega) (by omega) rfl rfl rfl ?_ | refine aops_p tok rfl rfl rfl rfl ?_ | refine acode_region ?_)
          exact ⟨(j + 1, o2, m2), ⟨by simp; omega, ho2, hfold⟩, by simp; omega, ⟨rfl, rfl, rfl, rfl, trivial⟩, rfl⟩
        | true =>
          rw [hds, List.foldl_cons] at hf2
          repeat' (first | refine aops_end ?_ | refine aops_p tok rfl rfl rfl rfl ?_ | refine acode_it rfl ?_ | refine acode_seq ?_ | refine acode_region ?_ | refine acode_block ?_ | refine acode_skip ?_ | refine then_n ?_)
          refine aops_ix tok [A.int .i64 s] rfl rfl rfl rfl (by omega) (by omega) (by simp) (ints_at (j := i) (by simpa using hs)) rfl rfl rfl ?_
          by_cases hs0 : 0 ≤ s
          · have hname : isName g s := hss.resolve_left (fun h1 => by unfold isKind at h1; omega)
            obtain ⟨n0, n1⟩ := id hname
            obtain ⟨z, hz⟩ : ∃ z, o2[s.toNat]? = some z := ⟨o2[s.toNat]'(by omega), List.getElem?_eq_getElem (by omega)⟩
            have hzd : o2.getD s.toNat false = z := by rw [List.getD_eq_getElem?_getD, hz]; rfl
            repeat' (first | refine aops_pbt tok rfl (by first | omega | decide) rfl rfl rfl ?_ | refine aops_p tok rfl rfl rfl rfl ?_)
            refine aops_ix tok [A.int .i64 s] rfl rfl rfl rfl (by omega) (by omega) (by simp) (ints_at (j := i) (by simpa using hs)) rfl rfl rfl ?_
            repeat (refine aops_p tok rfl rfl rfl rfl ?_)
            refine aops_ixo tok rfl rfl rfl rfl n0 (by omega) rfl rfl rfl ?_
            refine aops_ld tok 0 (y := .bool z) rfl rfl rfl rfl (by rw [headed_eq]; exact bools_get hz) rfl rfl rfl ?_
            cases z with
            | true =>
              have hst' : reach1 g r (o2, m2) s = (o2, m2) := by unfold reach1; rw [if_neg (by simp only [hzd]; simp)]
              rw [hst'] at hf2
              repeat' (first | refine aops_end ?_ | refine aops_a tok rfl (by omega) (by omega) rfl rfl rfl ?_ | refine aops_p tok rfl rfl rfl rfl ?_ | refine acode_if rfl ?_ | refine acode_region ?_ | refine acode_skip ?_ | refine then_n ?_ | refine block_n ?_)
              exact ⟨(i + 1, o2, m2), ⟨by simp; omega, ho2, hf2⟩, by simp; omega, ⟨rfl, rfl, rfl, rfl, rfl, rfl, trivial⟩, rfl⟩
            | false =>
              have hst' : reach1 g r (o2, m2) s = (o2.set s.toNat true, true) := by unfold reach1; rw [if_pos ⟨hgd, hname, hzd⟩]
              rw [hst'] at hf2
              repeat' (first | refine aops_end ?_ | refine aops_p tok rfl rfl rfl rfl ?_ | refine acode_it rfl ?_ | refine acode_seq ?_ | refine acode_region ?_)
              refine aops_ix tok [A.int .i64 s] rfl rfl rfl rfl (by omega) (by omega) (by simp) (ints_at (j := i) (by simpa using hs)) rfl rfl rfl ?_
              repeat (refine aops_p tok rfl rfl rfl rfl ?_)
              refine aops_ixo tok rfl rfl rfl rfl n0 (by omega) rfl rfl rfl ?_
              refine aops_sto tok (bools (o2.set s.toNat true)) rfl rfl rfl rfl rfl (by rw [bools_len, ho2]; show s.toNat * 1 + 1 ≤ _; omega) (bools_set (by omega) true) rfl rfl ?_
              repeat (first | refine aops_end ?_ | refine aops_endb ?_ | refine aops_a tok rfl (by omega) (by omega) rfl rfl rfl ?_ | refine aops_p tok rfl rfl rfl rfl ?_ | refine acode_region ?_ | refine then_n ?_)
              exact ⟨(i + 1, o2.set s.toNat true, true), ⟨by simp; omega, by simp [ho2], hf2⟩, by simp; omega, ⟨rfl, rfl, rfl, rfl, rfl, rfl, trivial⟩, rfl⟩
          · have hst' : reach1 g r (o2, m2) s = (o2, m2) := by unfold reach1; rw [if_neg (fun h => hs0 (by have := h.2.1; unfold isName at this; omega))]
            rw [hst'] at hf2
            repeat' (first | refine aops_end ?_ | refine aops_o rfl rfl rfl ?_ | refine aops_a tok rfl (by omega) (by omega) rfl rfl rfl ?_ | refine aops_pbf tok rfl (by first | omega | decide) rfl rfl rfl ?_ | refine aops_p tok rfl rfl rfl rfl ?_ | refine acode_if rfl ?_ | refine acode_region ?_ | refine acode_skip ?_ | refine then_n ?_ | refine block_n ?_)
            exact ⟨(i + 1, o2, m2), ⟨by simp; omega, ho2, hf2⟩, by simp; omega, ⟨rfl, rfl, rfl, rfl, rfl, rfl, trivial⟩, rfl⟩
      · have hge : i = r.right.length := by omega
        subst hge
        rw [List.drop_length] at hf2
        simp only [List.foldl_nil] at hf2
        rw [← hf2] at hfold
        repeat' (first | refine aops_end ?_ | refine aops_o rfl rfl rfl ?_ | refine aops_pbf tok rfl (by first | omega | decide) rfl rfl rfl ?_ | refine aops_p tok rfl rfl rfl rfl ?_ | refine acode_if rfl ?_ | refine acode_seq ?_ | refine acode_region ?_)
        refine acode_exit ?_
        repeat (first | refine exit_then ?_ | refine exit_here ?_ | refine then_n ?_ | refine block_n ?_)
        repeat (first | refine aops_end ?_ | refine aops_a tok rfl (by omega) (by omega) rfl rfl rfl ?_ | refine aops_p tok rfl rfl rfl rfl ?_ | refine acode_region ?_)
        exact ⟨(j + 1, o2, m2), ⟨by simp; omega, ho2, hfold⟩, by simp; omega, ⟨rfl, rfl, rfl, rfl, trivial⟩, rfl⟩
    · have hge : j = g.rules.length := by omega
      subst hge
      rw [List.drop_length] at hfold
      simp only [List.foldl_nil] at hfold
      refine acode_exit ?_
      repeat (first | refine exit_then ?_ | refine exit_here ?_ | refine then_n ?_ | refine block_n ?_)
      skip
      rw [← hfold] at hI hR2
      simp only at hI hR2
      refine ⟨(q', o1, m1), ⟨ho1, fun h => ?_, fun h => ?_⟩, ?_, ⟨rfl, rfl, rfl, trivial⟩, rfl⟩
      · simp only at h
        rw [if_pos h] at hI
        refine ⟨hI, ?_⟩
        rcases hR2 h with h3 | h3
        · cases h3
        · simp only; omega
      · simp only at h
        rw [h, if_neg (by simp)] at hI
        exact hI
      · simp only
        cases m1 <;> simp
end Go.Proofs.Ytnlmfhnjjblhoaa.Ab
/- Chapter 12's reference, shortest rows and what may end: the walk. No condition. -/
set_option linter.unusedVariables false
set_option linter.unusedSimpArgs false
namespace Go.Proofs.Ytnlmfhnjjblhoaa.Ab
attribute [local irreducible] thenA inBlockA ACode AOps put IntKind.wrap

def rowN (o : List Int) : List Int → Int → Int
  | [], v => v
  | s :: l, v => if v < 0 then v else if s < 0 then rowN o l (v + 1) else if o.getD s.toNat 0 < 0 then rowN o l (-1) else rowN o l (v + o.getD s.toNat 0)
theorem rowN_neg (o : List Int) (l : List Int) {v : Int} (h : v < 0) : rowN o l v = v := by cases l <;> simp [rowN, h]
def shortV (o : List Int) (r : Ru) : Int := if rowN o r.right 0 > 1000000000 then 1000000000 else rowN o r.right 0
def shortS (x : List Int × Bool) (r : Ru) : List Int × Bool := if 0 ≤ shortV x.1 r ∧ (x.1.getD r.left.toNat 0 < 0 ∨ shortV x.1 r < x.1.getD r.left.toNat 0) then (x.1.set r.left.toNat (shortV x.1 r), true) else x
def shortR (g : Gr) (o : List Int) : List Int × Bool := g.rules.foldl shortS (o, false)
def shortW (v : Int) : Nat := if v < 0 then 1000000001 else v.toNat
def shortM (o : List Int) : Nat := (o.map shortW).sum
def shortF (g : Gr) (n : Nat) : List Int := fixI (shortR g) (n * 1000000001 + 1) (List.replicate n (-1))
def shortP (n : Nat) (o : List Int) : Prop := o.length = n ∧ ∀ v ∈ o, -1 ≤ v ∧ v ≤ 1000000000
theorem shortM_set : ∀ {o : List Int} {i : Nat} {x y : Int}, o[i]? = some x → shortM (o.set i y) + shortW x = shortM o + shortW y
  | [], i, _, _, h => by simp at h
  | a :: o, 0, x, y, h => by simp at h; subst h; simp [shortM]; omega
  | a :: o, i + 1, x, y, h => by
    have := shortM_set (o := o) (i := i) (y := y) (by simpa using h)
    simp [shortM] at this ⊢; omega
theorem shortM_rep : ∀ n : Nat, shortM (List.replicate n (-1)) = n * 1000000001
  | 0 => rfl
  | n + 1 => by
    have := shortM_rep n
    rw [List.replicate_succ]
    show shortW (-1) + shortM (List.replicate n (-1)) = _
    rw [this]; show 1000000001 + _ = _; omega
theorem shortS_gw {n : Nat} (r : Ru) (hr : r.left.toNat < n) (x : List Int × Bool) : Gw (shortP n) shortM x (shortS x r) := by
  intro h
  unfold shortS
  split
  · rename_i hc
    obtain ⟨c0, c1⟩ := hc
    obtain ⟨hl, hv⟩ := h
    have hlt : r.left.toNat < x.1.length := by omega
    have hx : x.1[r.left.toNat]? = some (x.1.getD r.left.toNat 0) := by rw [List.getD_eq_getElem?_getD, List.getElem?_eq_getElem hlt]; rfl
    have hm := shortM_set (y := shortV x.1 r) hx
    have hle : shortV x.1 r ≤ 1000000000 := by unfold shortV; split <;> omega
    have hw : shortW (shortV x.1 r) < shortW (x.1.getD r.left.toNat 0) := by
      unfold shortW
      rw [if_neg (by omega)]
      split <;> omega
    refine ⟨⟨by simp [hl], fun v hv' => ?_⟩, by simp only; omega, fun _ => .inr (by simp only; omega)⟩
    rcases List.mem_or_eq_of_mem_set hv' with h2 | h2
    · exact hv v h2
    · subst h2; exact ⟨by omega, hle⟩
  · exact ⟨h, Nat.le_refl _, fun h => .inl h⟩
theorem shortR_gw {g : Gr} {n : Nat} (hw : ∀ r ∈ g.rules, r.left.toNat < n) (o : List Int) : Gw (shortP n) shortM (o, false) (shortR g o) :=
  gw_fold g.rules _ fun r hr x => shortS_gw r (hw r hr) x
theorem shortF_ok {g : Gr} {n : Nat} (hw : ∀ r ∈ g.rules, r.left.toNat < n) : shortP n (shortF g n) :=
  fixI_ok (p := shortP n) (fun x h => (shortR_gw hw x h).1) _ _ ⟨by simp, fun v hv => by rw [List.eq_of_mem_replicate hv]; omega⟩

set_option maxHeartbeats 8000000 in
theorem shortest_calls {g : Gr} {n : Nat} (hg : GrOk g) (h : (formF g).2 = 0) (hn : g.names = n) (hn2 : n ≤ 1000) (hw : ∀ r ∈ g.rules, isName g r.left) (hsy : ∀ r ∈ g.rules, ∀ s ∈ r.right, isSym g s) (h8 : ∀ r ∈ g.rules, r.right.length ≤ 8) (M : List Ob) :
    ACalls Try.prog 77 [grA g] M (fun r M' => r = .psl n (ints (shortF g n)) ∧ M' = M) := by
  have hrl := hg.rl
  have hlt : ∀ r ∈ g.rules, r.left.toNat < n := fun r hr => by have := hw r hr; unfold isName at this; omega
  refine acalls_of_code 105 Try.func77 rfl rfl rfl ?_
  repeat (first | refine acode_seq ?_ | refine acode_region ?_)
  refine aops_boxf rfl rfl rfl rfl rfl rfl rfl ?_
  repeat (first | refine aops_end ?_ | refine aops_p tok rfl rfl rfl rfl ?_ | refine acode_seq ?_ | refine acode_region ?_)
  refine aops_callx Try.func76 rfl rfl rfl rfl (formed_calls hg _) rfl rfl rfl ?_
  rw [decide_eq_true h]
  repeat' (first | refine aops_end ?_ | refine aops_p tok rfl rfl rfl rfl ?_ | refine acode_if rfl ?_ | refine acode_seq ?_ | refine acode_region ?_ | refine acode_skip ?_ | refine then_n ?_)
  refine aops_mk tok n rfl rfl rfl rfl hn rfl (by show _ * 8 ≤ _; omega) (by omega) rfl rfl rfl fun bo => ?_
  repeat (refine aops_p tok rfl rfl rfl rfl ?_)
  refine aops_end ?_
  refine acode_seq ?_
  refine acode_join [(1, .pp (grC g)), (3, .own (some bo) n n)] (⟨some bo, n * 1, ints (List.replicate n (-1))⟩ :: M) ?_ ?_
  · repeat (first | refine aops_end ?_ | refine aops_p tok rfl rfl rfl rfl ?_ | refine acode_seq ?_ | refine acode_region ?_ | refine acode_block ?_)
    refine acode_loopS (ι := Nat) (fun i => [(1, .pp (grC g)), (3, .own (some bo) n n), (4, .int .i64 i)]) (fun i => ⟨some bo, n * 1, ints (List.replicate i (-1) ++ List.replicate (n - i) 0)⟩ :: M) (fun i => n - i) (fun i => i ≤ n) 0 (Nat.zero_le _) ⟨rfl, rfl, rfl, trivial⟩ (by rw [List.replicate_zero, List.nil_append, Nat.sub_zero, ← ints_zeros]; rfl) ?_
    intro i hi
    repeat (first | refine aops_end ?_ | refine aops_p tok rfl rfl rfl rfl ?_ | refine acode_seq ?_ | refine acode_region ?_)
    refine acode_id rfl (fun e => ?_) (fun e => ?_)
    · have hil : i < n := by omega
      repeat (first | refine aops_p tok rfl rfl rfl rfl ?_ | refine acode_seq ?_ | refine acode_region ?_ | refine acode_block ?_ | refine acode_skip ?_ | refine then_n ?_)
      refine aops_ixo tok rfl rfl rfl rfl (by omega) (by omega) rfl rfl rfl ?_
      refine aops_sto tok (ints (List.replicate (i + 1) (-1) ++ List.replicate (n - (i + 1)) 0)) rfl rfl rfl rfl rfl (by rw [ints_len]; show (i : Int).toNat * 1 + 1 ≤ _; simp; omega) ?_ rfl rfl ?_
      · show List.take ((i : Int).toNat * 1) _ ++ ([A.int .i64 (-1)] ++ List.drop ((i : Int).toNat * 1 + 1) _) = _
        rw [Int.toNat_natCast, ints_set1 (by simp; omega)]
        congr 1
        obtain ⟨q, hq⟩ : ∃ q, n - i = q + 1 := ⟨n - i - 1, by omega⟩
        rw [hq, show n - (i + 1) = q by omega, List.set_append_right _ _ (by simp), List.length_replicate, Nat.sub_self, List.replicate_succ, List.set_cons_zero, List.replicate_succ', List.append_assoc]; rfl
      repeat (first | refine aops_end ?_ | refine aops_endb ?_ | refine aops_a tok rfl (by omega) (by omega) rfl rfl rfl ?_ | refine aops_p tok rfl rfl rfl rfl ?_ | refine acode_region ?_ | refine then_n ?_)
      exact ⟨i + 1, by omega, by omega, ⟨rfl, rfl, rfl, trivial⟩, rfl⟩
    · obtain rfl : i = n := by omega
      refine acode_exit ?_
      repeat (first | refine exit_then ?_ | refine exit_here ?_ | refine then_n ?_)
      exact ⟨⟨rfl, rfl, trivial⟩, by rw [Nat.sub_self, List.replicate_zero, List.append_nil]⟩
  have hR0 : fixI (shortR g) (n * 1000000001 + 1) (List.replicate n (-1)) = shortF g n := rfl
  have h0c : shortM (List.replicate n (-1)) < n * 1000000001 + 1 := by rw [shortM_rep]; omega
  have h0l : shortP n (List.replicate n (-1)) := ⟨by simp, fun v hv => by rw [List.eq_of_mem_replicate hv]; omega⟩
  generalize n * 1000000001 + 1 = K at *
  generalize shortF g n = fin at *
  generalize List.replicate n (-1) = o0 at *
  repeat (first | refine aops_end ?_ | refine aops_p tok rfl rfl rfl rfl ?_ | refine acode_seq ?_ | refine acode_region ?_ | refine acode_block ?_)
  refine acode_loopS (ι := Nat × List Int × Bool) (fun p => [(1, .pp (grC g)), (3, .own (some bo) n n), (5, .bool p.2.2)]) (fun p => ⟨some bo, n * 1, ints p.2.1⟩ :: M) (fun p => if p.2.2 then p.1 + 1 else 0) (fun p => shortP n p.2.1 ∧ (p.2.2 = true → fixI (shortR g) p.1 p.2.1 = fin ∧ shortM p.2.1 < p.1) ∧ (p.2.2 = false → p.2.1 = fin)) (K, o0, true) ⟨h0l, fun _ => ⟨hR0, h0c⟩, fun h => by cases h⟩ ⟨rfl, rfl, rfl, trivial⟩ rfl ?_
  rintro ⟨q, o, more⟩ ⟨hol, hm, hd⟩
  simp only at hol hm hd ⊢
  cases more with
  | false =>
    obtain rfl := hd rfl
    repeat' (first | refine aops_end ?_ | refine aops_p tok rfl rfl rfl rfl ?_ | refine acode_if rfl ?_ | refine acode_seq ?_ | refine acode_region ?_)
    refine acode_exit ?_
    repeat (first | refine exit_then ?_ | refine exit_here ?_ | refine then_n ?_)
    repeat (first | refine aops_end ?_ | refine aops_p tok rfl rfl rfl rfl ?_ | refine acode_seq ?_ | refine acode_region ?_)
    refine acode_pub0 2 1 rfl rfl (by rw [ints_len, hol.1, Nat.mul_one]) rfl ?_
    refine acode_ret ?_
    skip
    exact ⟨_, ⟨rfl, rfl⟩, resOf_tmp rfl⟩
  | true =>
    obtain ⟨hI, hcnt⟩ := hm rfl
    clear hm hd
    obtain ⟨q', rfl⟩ : ∃ q', q = q' + 1 := ⟨q - 1, by omega⟩
    obtain ⟨hRl, hR1, hR2⟩ := shortR_gw hlt o hol
    simp only [fixI] at hI
    simp only at hR1 hR2 hRl
    repeat' (first | refine aops_end ?_ | refine aops_p tok rfl rfl rfl rfl ?_ | refine acode_it rfl ?_ | refine acode_seq ?_ | refine acode_region ?_ | refine acode_block ?_ | refine acode_skip ?_ | refine then_n ?_)
    refine acode_loopS (ι := Nat × List Int × Bool) (fun p => [(1, .pp (grC g)), (3, .own (some bo) n n), (5, .bool p.2.2), (6, .int .i64 p.1)]) (fun p => ⟨some bo, n * 1, ints p.2.1⟩ :: M) (fun p => g.rules.length - p.1) (fun p => p.1 ≤ g.rules.length ∧ shortP n p.2.1 ∧ (g.rules.drop p.1).foldl shortS (p.2.1, p.2.2) = shortR g o) (0, o, false) ⟨Nat.zero_le _, hol, rfl⟩ ⟨rfl, rfl, rfl, rfl, trivial⟩ rfl ?_
    rintro ⟨j, o1, m1⟩ ⟨hj, ho1, hfold⟩
    simp only at hj ho1 hfold ⊢
    repeat (first | refine aops_end ?_ | refine aops_p tok rfl rfl rfl rfl ?_ | refine acode_seq ?_ | refine acode_region ?_)
    refine acode_id rfl (fun e => ?_) (fun e => ?_)
    · have hjl : j < g.rules.length := by omega
      obtain ⟨r, hr⟩ : ∃ r, g.rules[j]? = some r := ⟨g.rules[j], List.getElem?_eq_getElem hjl⟩
      have hrm := List.mem_of_getElem? hr
      have hdr : g.rules.drop j = r :: g.rules.drop (j + 1) := by
        rw [List.drop_eq_getElem_cons hjl]
        rw [List.getElem?_eq_getElem hjl] at hr
        rw [Option.some.inj hr]
      rw [hdr, List.foldl_cons] at hfold
      obtain ⟨hr0, hr1⟩ := hw r hrm
      have hrr := h8 r hrm
      have hl1 := hlt r hrm
      obtain ⟨ho1l, ho1v⟩ := id ho1
      obtain ⟨x, hx⟩ : ∃ x, o1[r.left.toNat]? = some x := ⟨o1[r.left.toNat]'(by omega), List.getElem?_eq_getElem (by omega)⟩
      have hgd : o1.getD r.left.toNat 0 = x := by rw [List.getD_eq_getElem?_getD, hx]; rfl
      have hxv := ho1v x (List.mem_of_getElem? hx)
      repeat (first | refine aops_p tok rfl rfl rfl rfl ?_ | refine acode_seq ?_ | refine acode_region ?_ | refine acode_block ?_ | refine acode_skip ?_ | refine then_n ?_)
      refine aops_ix tok (ruC r) rfl rfl rfl rfl (by omega) (by omega) (by simp [ruC]) (encs_at (e := ruC) (s := 3) (fun _ => rfl) (i := (j : Int).toNat) (by simpa using hr)) rfl rfl rfl ?_
      repeat (refine aops_p tok rfl rfl rfl rfl ?_)
      refine aops_alloc tok rfl rfl rfl rfl rfl rfl fun ba => ?_
      refine aops_stn tok rfl rfl rfl rfl rfl rfl rfl rfl rfl ?_
      refine aops_pubref0 7 rfl ?_
      skip
      refine aops_end ?_
      refine acode_seq ?_
      refine acode_region ?_
      repeat (refine aops_p tok rfl rfl rfl rfl ?_)
      refine aops_end ?_
      refine acode_seq ?_
      refine acode_join [(1, .pp (grC g)), (3, .own (some bo) n n), (5, .bool m1), (6, .int .i64 j), (7, .pp (ruC r)), (8, .int .i64 (rowN o1 r.right 0))] (⟨some bo, n * 1, ints o1⟩ :: M) ?_ ?_
      · repeat (first | refine aops_end ?_ | refine aops_p tok rfl rfl rfl rfl ?_ | refine acode_seq ?_ | refine acode_region ?_ | refine acode_block ?_)
        refine acode_loopS (ι := Nat × Int) (fun p => [(1, .pp (grC g)), (3, .own (some bo) n n), (5, .bool m1), (6, .int .i64 j), (7, .pp (ruC r)), (8, .int .i64 p.2), (9, .int .i64 p.1)]) (fun _ => ⟨some bo, n * 1, ints o1⟩ :: M) (fun p => r.right.length - p.1) (fun p => p.1 ≤ r.right.length ∧ -1 ≤ p.2 ∧ p.2 ≤ p.1 * 1000000000 ∧ rowN o1 (r.right.drop p.1) p.2 = rowN o1 r.right 0) (0, 0) ⟨Nat.zero_le _, by simp, by simp, rfl⟩ ⟨rfl, rfl, rfl, rfl, rfl, rfl, rfl, trivial⟩ rfl ?_
        rintro ⟨k, v⟩ ⟨hk, hv0, hv1, hf⟩
        simp only at hk hv0 hv1 hf ⊢
        by_cases hkl : k < r.right.length
        · by_cases hvn : v < 0
          · rw [rowN_neg _ _ hvn] at hf
            repeat' (first | refine aops_end ?_ | refine aops_pbt tok rfl (by first | omega | decide) rfl rfl rfl ?_ | refine aops_pbf tok rfl (by first | omega | decide) rfl rfl rfl ?_ | refine aops_p tok rfl rfl rfl rfl ?_ | refine acode_if rfl ?_ | refine acode_seq ?_ | refine acode_region ?_)
            refine acode_exit ?_
            repeat (first | refine exit_then ?_ | refine exit_here ?_ | refine then_n ?_)
            exact ⟨⟨rfl, rfl, rfl, rfl, rfl, by rw [hf]; rfl, trivial⟩, rfl⟩
          · obtain ⟨s, hs⟩ : ∃ s, r.right[k]? = some s := ⟨r.right[k], List.getElem?_eq_getElem hkl⟩
            have hds : r.right.drop k = s :: r.right.drop (k + 1) := by
              rw [List.drop_eq_getElem_cons hkl]
              rw [List.getElem?_eq_getElem hkl] at hs
              rw [Option.some.inj hs]
            have hss := hsy r hrm s (List.mem_of_getElem? hs)
            rw [hds, rowN, if_neg hvn] at hf
            repeat' (first | refine aops_end ?_ | refine aops_pbt tok rfl (by first | omega | decide) rfl rfl rfl ?_ | refine aops_p tok rfl rfl rfl rfl ?_ | refine acode_it rfl ?_ | refine acode_seq ?_ | refine acode_region ?_ | refine acode_block ?_ | refine acode_skip ?_ | refine then_n ?_)
            refine aops_ix tok [A.int .i64 s] rfl rfl rfl rfl (by omega) (by omega) (by simp) (ints_at (j := k) (by simpa using hs)) rfl rfl rfl ?_
            by_cases hs0 : s < 0
            · rw [if_pos hs0] at hf
              repeat' (first | refine aops_end ?_ | refine aops_endb ?_ | refine aops_a tok rfl (by omega) (by omega) rfl rfl rfl ?_ | refine aops_pbt tok rfl (by first | omega | decide) rfl rfl rfl ?_ | refine aops_p tok rfl rfl rfl rfl ?_ | refine acode_it rfl ?_ | refine acode_region ?_ | refine then_n ?_ | refine block_n ?_)
              exact ⟨(k + 1, v + 1), ⟨by simp; omega, by simp; omega, by simp; omega, hf⟩, by simp; omega, ⟨rfl, rfl, rfl, rfl, rfl, rfl, rfl, trivial⟩, rfl⟩
            · rw [if_neg hs0] at hf
              have hname : isName g s := hss.resolve_left (fun h1 => by unfold isKind at h1; omega)
              obtain ⟨n0, n1⟩ := id hname
              obtain ⟨z, hz⟩ : ∃ z, o1[s.toNat]? = some z := ⟨o1[s.toNat]'(by omega), List.getElem?_eq_getElem (by omega)⟩
              have hzd : o1.getD s.toNat 0 = z := by rw [List.getD_eq_getElem?_getD, hz]; rfl
              have hzv := ho1v z (List.mem_of_getElem? hz)
              rw [hzd] at hf
              repeat' (first | refine aops_end ?_ | refine aops_pbf tok rfl (by first | omega | decide) rfl rfl rfl ?_ | refine aops_p tok rfl rfl rfl rfl ?_ | refine acode_if rfl ?_ | refine acode_seq ?_ | refine acode_region ?_)
              refine aops_ix tok [A.int .i64 s] rfl rfl rfl rfl (by omega) (by omega) (by simp) (ints_at (j := k) (by simpa using hs)) rfl rfl rfl ?_
              repeat (refine aops_p tok rfl rfl rfl rfl ?_)
              refine aops_ixo tok rfl rfl rfl rfl n0 (by omega) rfl rfl rfl ?_
              refine aops_ld tok 0 (y := .int .i64 z) rfl rfl rfl rfl (by rw [headed_eq, Nat.mul_one]; exact ints_get hz) rfl rfl rfl ?_
              by_cases hz0 : z < 0
              · rw [if_pos hz0] at hf
                repeat' (first | refine aops_end ?_ | refine aops_endb ?_ | refine aops_a tok rfl (by omega) (by omega) rfl rfl rfl ?_ | refine aops_pbt tok rfl (by first | omega | decide) rfl rfl rfl ?_ | refine aops_p tok rfl rfl rfl rfl ?_ | refine acode_it rfl ?_ | refine acode_region ?_ | refine then_n ?_ | refine block_n ?_)
                exact ⟨(k + 1, -1), ⟨by simp; omega, by simp, by simp; omega, hf⟩, by simp; omega, ⟨rfl, rfl, rfl, rfl, rfl, rfl, rfl, trivial⟩, rfl⟩
              · rw [if_neg hz0] at hf
                repeat' (first | refine aops_end ?_ | refine aops_pbf tok rfl (by first | omega | decide) rfl rfl rfl ?_ | refine aops_p tok rfl rfl rfl rfl ?_ | refine acode_if rfl ?_ | refine acode_region ?_)
                refine aops_ix tok [A.int .i64 s] rfl rfl rfl rfl (by omega) (by omega) (by simp) (ints_at (j := k) (by simpa using hs)) rfl rfl rfl ?_
                repeat (refine aops_p tok rfl rfl rfl rfl ?_)
                refine aops_ixo tok rfl rfl rfl rfl n0 (by omega) rfl rfl rfl ?_
                refine aops_ld tok 0 (y := .int .i64 z) rfl rfl rfl rfl (by rw [headed_eq, Nat.mul_one]; exact ints_get hz) rfl rfl rfl ?_
                repeat (first | refine aops_end ?_ | refine aops_endb ?_ | refine aops_a tok rfl (by omega) (by omega) rfl rfl rfl ?_ | refine aops_p tok rfl rfl rfl rfl ?_ | refine acode_region ?_ | refine then_n ?_ | refine block_n ?_)
                exact ⟨(k + 1, v + z), ⟨by simp; omega, by simp; omega, by simp; omega, hf⟩, by simp; omega, ⟨rfl, rfl, rfl, rfl, rfl, rfl, rfl, trivial⟩, rfl⟩
        · obtain rfl : k = r.right.length := by omega
          rw [List.drop_length, rowN] at hf
          repeat' (first | refine aops_end ?_ | refine aops_o rfl rfl rfl ?_ | refine aops_pbf tok rfl (by first | omega | decide) rfl rfl rfl ?_ | refine aops_p tok rfl rfl rfl rfl ?_ | refine acode_if rfl ?_ | refine acode_seq ?_ | refine acode_region ?_)
          refine acode_exit ?_
          repeat (first | refine exit_then ?_ | refine exit_here ?_ | refine then_n ?_)
          exact ⟨⟨rfl, rfl, rfl, rfl, rfl, by rw [hf]; rfl, trivial⟩, rfl⟩
      refine acode_seq ?_
      refine acode_join [(1, .pp (grC g)), (3, .own (some bo) n n), (5, .bool m1), (6, .int .i64 j), (7, .pp (ruC r)), (8, .int .i64 (shortV o1 r))] (⟨some bo, n * 1, ints o1⟩ :: M) ?_ ?_
      · by_cases hbig : rowN o1 r.right 0 > 1000000000
        · repeat' (first | refine aops_end ?_ | refine aops_pbt tok rfl (by first | omega | decide) rfl rfl rfl ?_ | refine aops_p tok rfl rfl rfl rfl ?_ | refine acode_it rfl ?_ | refine acode_seq ?_ | refine acode_region ?_)
          exact ⟨⟨rfl, rfl, rfl, rfl, rfl, by unfold shortV; rw [if_pos hbig]; rfl, trivial⟩, rfl⟩
        · repeat' (first | refine aops_end ?_ | refine aops_pbf tok rfl (by first | omega | decide) rfl rfl rfl ?_ | refine aops_p tok rfl rfl rfl rfl ?_ | refine acode_if rfl ?_ | refine acode_seq ?_ | refine acode_region ?_ | refine acode_skip ?_ | refine then_n ?_)
          exact ⟨⟨rfl, rfl, rfl, rfl, rfl, by unfold shortV; rw [if_neg hbig]; rfl, trivial⟩, rfl⟩
      by_cases hc : 0 ≤ shortV o1 r ∧ (x < 0 ∨ shortV o1 r < x)
      · have hst : shortS (o1, m1) r = (o1.set r.left.toNat (shortV o1 r), true) := by unfold shortS; rw [if_pos (by rw [hgd]; exact hc)]
        have hgw := (shortS_gw r hl1 (o1, m1) ho1).1
        rw [hst] at hfold hgw
        refine acode_seq ?_
        refine acode_join [(1, .pp (grC g)), (3, .own (some bo) n n), (5, .bool m1), (6, .int .i64 j), (7, .pp (ruC r)), (8, .int .i64 (shortV o1 r)), (98, .bool true)] (⟨some bo, n * 1, ints o1⟩ :: M) ?_ ?_
        · generalize shortV o1 r = v at *
          repeat' (first | refine aops_pbt tok rfl (by first | omega | decide) rfl rfl rfl ?_ | refine aops_p tok rfl rfl rfl rfl ?_ | refine acode_region ?_)
          refine aops_ixo tok rfl rfl rfl rfl hr0 (by omega) rfl rfl rfl ?_
          refine aops_ld tok 0 (y := .int .i64 x) rfl rfl rfl rfl (by rw [headed_eq, Nat.mul_one]; exact ints_get hx) rfl rfl rfl ?_
          by_cases hx0 : x < 0
          · repeat' (first | refine aops_end ?_ | refine aops_o rfl rfl rfl ?_ | refine aops_pbt tok rfl (by first | omega | decide) rfl rfl rfl ?_ | refine aops_p tok rfl rfl rfl rfl ?_)
            exact ⟨⟨rfl, rfl, rfl, rfl, rfl, rfl, rfl, trivial⟩, rfl⟩
          · repeat' (first | refine aops_pbf tok rfl (by first | omega | decide) rfl rfl rfl ?_ | refine aops_p tok rfl rfl rfl rfl ?_)
            refine aops_ixo tok rfl rfl rfl rfl hr0 (by omega) rfl rfl rfl ?_
            refine aops_ld tok 0 (y := .int .i64 x) rfl rfl rfl rfl (by rw [headed_eq, Nat.mul_one]; exact ints_get hx) rfl rfl rfl ?_
            repeat' (first | refine aops_end ?_ | refine aops_pbt tok rfl (by first | omega | decide) rfl rfl rfl ?_ | refine aops_p tok rfl rfl rfl rfl ?_)
            exact ⟨⟨rfl, rfl, rfl, rfl, rfl, rfl, rfl, trivial⟩, rfl⟩
        · repeat' (first | refine aops_p tok rfl rfl rfl rfl ?_ | refine acode_it rfl ?_ | refine acode_seq ?_ | refine acode_region ?_)
          refine aops_ixo tok rfl rfl rfl rfl hr0 (by omega) rfl rfl rfl ?_
          refine aops_sto tok (ints (o1.set r.left.toNat (shortV o1 r))) rfl rfl rfl rfl rfl (by rw [ints_len, ho1l]; show r.left.toNat * 1 + 1 ≤ _; omega) (ints_set1 (by omega) _) rfl rfl ?_
          repeat (first | refine aops_end ?_ | refine aops_endb ?_ | refine aops_a tok rfl (by omega) (by omega) rfl rfl rfl ?_ | refine aops_p tok rfl rfl rfl rfl ?_ | refine acode_region ?_ | refine then_n ?_)
          exact ⟨(j + 1, o1.set r.left.toNat (shortV o1 r), true), ⟨by simp; omega, hgw, hfold⟩, by simp; omega, ⟨rfl, rfl, rfl, rfl, trivial⟩, rfl⟩
      · have hst : shortS (o1, m1) r = (o1, m1) := by unfold shortS; rw [if_neg (by rw [hgd]; exact hc)]
        rw [hst] at hfold
        refine acode_seq ?_
        refine acode_join [(1, .pp (grC g)), (3, .own (some bo) n n), (5, .bool m1), (6, .int .i64 j), (7, .pp (ruC r)), (8, .int .i64 (shortV o1 r)), (98, .bool false)] (⟨some bo, n * 1, ints o1⟩ :: M) ?_ ?_
        · generalize shortV o1 r = v at *
          by_cases hv0 : 0 ≤ v
          · repeat' (first | refine aops_pbt tok rfl (by first | omega | decide) rfl rfl rfl ?_ | refine aops_p tok rfl rfl rfl rfl ?_ | refine acode_region ?_)
            refine aops_ixo tok rfl rfl rfl rfl hr0 (by omega) rfl rfl rfl ?_
            refine aops_ld tok 0 (y := .int .i64 x) rfl rfl rfl rfl (by rw [headed_eq, Nat.mul_one]; exact ints_get hx) rfl rfl rfl ?_
            repeat' (first | refine aops_pbf tok rfl (by first | omega | decide) rfl rfl rfl ?_ | refine aops_p tok rfl rfl rfl rfl ?_)
            refine aops_ixo tok rfl rfl rfl rfl hr0 (by omega) rfl rfl rfl ?_
            refine aops_ld tok 0 (y := .int .i64 x) rfl rfl rfl rfl (by rw [headed_eq, Nat.mul_one]; exact ints_get hx) rfl rfl rfl ?_
            repeat' (first | refine aops_end ?_ | refine aops_pbf tok rfl (by first | omega | decide) rfl rfl rfl ?_ | refine aops_p tok rfl rfl rfl rfl ?_)
            exact ⟨⟨rfl, rfl, rfl, rfl, rfl, rfl, rfl, trivial⟩, rfl⟩
          · repeat' (first | refine aops_end ?_ | refine aops_o rfl rfl rfl ?_ | refine aops_pbf tok rfl (by first | omega | decide) rfl rfl rfl ?_ | refine aops_p tok rfl rfl rfl rfl ?_ | refine acode_region ?_)
            exact ⟨⟨rfl, rfl, rfl, rfl, rfl, rfl, rfl, trivial⟩, rfl⟩
        · repeat' (first | refine aops_end ?_ | refine aops_a tok rfl (by omega) (by omega) rfl rfl rfl ?_ | refine aops_p tok rfl rfl rfl rfl ?_ | refine acode_if rfl ?_ | refine acode_region ?_ | refine acode_skip ?_ | refine then_n ?_ | refine block_n ?_)
          exact ⟨(j + 1, o1, m1), ⟨by simp; omega, ho1, hfold⟩, by simp; omega, ⟨rfl, rfl, rfl, rfl, trivial⟩, rfl⟩
    · have hge : j = g.rules.length := by omega
      subst hge
      rw [List.drop_length] at hfold
      simp only [List.foldl_nil] at hfold
      refine acode_exit ?_
      repeat (first | refine exit_then ?_ | refine exit_here ?_ | refine then_n ?_ | refine block_n ?_)
      skip
      rw [← hfold] at hI hR2
      simp only at hI hR2
      refine ⟨(q', o1, m1), ⟨ho1, fun h => ?_, fun h => ?_⟩, ?_, ⟨rfl, rfl, rfl, trivial⟩, rfl⟩
      · simp only at h
        rw [if_pos h] at hI
        refine ⟨hI, ?_⟩
        rcases hR2 h with h3 | h3
        · cases h3
        · simp only; omega
      · simp only at h
        rw [h, if_neg (by simp)] at hI
        exact hI
      · simp only
        cases m1 <;> simp

def prodF (g : Gr) (n : Nat) : List Bool := (shortF g n).map fun v => decide (0 ≤ v)
set_option maxHeartbeats 4000000 in
theorem productive_calls {g : Gr} {n : Nat} (hg : GrOk g) (h : (formF g).2 = 0) (hn : g.names = n) (hn2 : n ≤ 1000) (hw : ∀ r ∈ g.rules, isName g r.left) (hsy : ∀ r ∈ g.rules, ∀ s ∈ r.right, isSym g s) (h8 : ∀ r ∈ g.rules, r.right.length ≤ 8) (M : List Ob) :
    ACalls Try.prog 57 [grA g] M (fun r M' => r = .psl n (bools (prodF g n)) ∧ M' = M) := by
  have hlt : ∀ r ∈ g.rules, r.left.toNat < n := fun r hr => by have := hw r hr; unfold isName at this; omega
  refine acalls_of_code 26 Try.func57 rfl rfl rfl ?_
  repeat (first | refine acode_seq ?_ | refine acode_region ?_)
  refine aops_boxf rfl rfl rfl rfl rfl rfl rfl ?_
  repeat (first | refine aops_end ?_ | refine aops_p tok rfl rfl rfl rfl ?_ | refine acode_seq ?_ | refine acode_region ?_)
  refine aops_callx Try.func76 rfl rfl rfl rfl (formed_calls hg _) rfl rfl rfl ?_
  rw [decide_eq_true h]
  repeat' (first | refine aops_end ?_ | refine aops_p tok rfl rfl rfl rfl ?_ | refine acode_if rfl ?_ | refine acode_seq ?_ | refine acode_region ?_ | refine acode_skip ?_ | refine then_n ?_)
  refine aops_callx Try.func77 rfl rfl rfl rfl (shortest_calls hg h hn hn2 hw hsy h8 _) rfl rfl rfl ?_
  have hF : prodF g n = (shortF g n).map fun v => decide (0 ≤ v) := rfl
  obtain ⟨hl, _⟩ := shortF_ok hlt
  generalize prodF g n = P at *
  generalize shortF g n = o at *
  subst hF
  repeat (first | refine aops_end ?_ | refine aops_p tok rfl rfl rfl rfl ?_ | refine acode_seq ?_ | refine acode_region ?_ | refine acode_block ?_)
  refine acode_adopt 4 1 rfl ?_
  refine acode_loopS (ι := Nat × Option Nat × Nat) (fun p => [(3, .psl n (ints o)), (4, .own p.2.1 p.1 p.2.2), (5, .int .i64 p.1)]) (fun p => ⟨p.2.1, p.2.2 * 1, bools ((o.take p.1).map fun v => decide (0 ≤ v))⟩ :: M) (fun p => n - p.1) (fun p => p.1 ≤ n) (0, none, 0) (Nat.zero_le _) ⟨rfl, rfl, rfl, trivial⟩ rfl ?_
  rintro ⟨i, ob, cap⟩ hi
  simp only at hi ⊢
  repeat (first | refine aops_end ?_ | refine aops_p tok rfl rfl rfl rfl ?_ | refine acode_seq ?_ | refine acode_region ?_)
  refine acode_id rfl (fun e => ?_) (fun e => ?_)
  · have hil : i < n := by omega
    obtain ⟨x, hx⟩ : ∃ x, o[i]? = some x := ⟨o[i]'(by omega), List.getElem?_eq_getElem (by omega)⟩
    have hts : (o.take (i + 1)).map (fun v => decide (0 ≤ v)) = (o.take i).map (fun v => decide (0 ≤ v)) ++ [decide (0 ≤ x)] := by rw [List.take_add_one, hx]; simp
    repeat (first | refine aops_p tok rfl rfl rfl rfl ?_ | refine acode_seq ?_ | refine acode_region ?_ | refine acode_block ?_ | refine acode_skip ?_ | refine then_n ?_)
    refine aops_ix tok [A.int .i64 x] rfl rfl rfl rfl (by omega) (by omega) (by simp) (ints_at (j := i) (by simpa using hx)) rfl rfl rfl ?_
    repeat (refine aops_p tok rfl rfl rfl rfl ?_)
    refine aops_litn tok rfl rfl rfl rfl rfl rfl rfl ?_
    refine aops_append tok 0 (m := 1) rfl rfl rfl (.inl rfl) rfl rfl (by rw [bools_len]; simp; omega) rfl rfl rfl (by show _ * 1 ≤ _; omega) (by omega) rfl rfl fun ob' cap' => ?_
    repeat (first | refine aops_put rfl ?_ | refine aops_end ?_ | refine aops_endb ?_ | refine aops_a tok rfl (by omega) (by omega) rfl rfl rfl ?_ | refine aops_p tok rfl rfl rfl rfl ?_ | refine acode_region ?_ | refine then_n ?_)
    exact ⟨(i + 1, ob', cap'), by simp; omega, by simp; omega, ⟨rfl, rfl, rfl, trivial⟩, by simp only [hts, bools, List.map_append]; rfl⟩
  · have hge : i = n := by omega
    subst hge
    refine acode_exit ?_
    repeat (first | refine exit_then ?_ | refine exit_here ?_ | refine then_n ?_)
    repeat (first | refine aops_end ?_ | refine aops_p tok rfl rfl rfl rfl ?_ | refine acode_seq ?_ | refine acode_region ?_)
    refine acode_pub0 2 1 rfl rfl (by rw [bools_len]; simp; omega) rfl ?_
    refine acode_ret ?_
    skip
    rw [List.take_of_length_le (by omega)]
    exact ⟨_, ⟨rfl, rfl⟩, resOf_tmp rfl⟩
end Go.Proofs.Ytnlmfhnjjblhoaa.Ab
/- Rows of truths, each an object of its own: pulled out of Set2, Set4, Set9 (printed by genchk.py). No condition. -/
set_option linter.unusedVariables false
set_option linter.unusedSimpArgs false
namespace Go.Proofs.Ytnlmfhnjjblhoaa.Ab
attribute [local irreducible] thenA inBlockA ACode AOps put IntKind.wrap

theorem bools_at {l : List Bool} {j : Int} {x : Bool} (h : l[j.toNat]? = some x) : [A.bool x] <+: (bools l).drop (j.toNat * 1) := by
  rw [Nat.mul_one]
  have hlt : j.toNat < l.length := (List.getElem?_eq_some_iff.1 h).1
  rw [List.drop_eq_getElem_cons (by simpa [bools] using hlt)]
  have h2 : (bools l)[j.toNat]? = some (.bool x) := by simp [bools, h]
  rw [List.getElem?_eq_some_iff] at h2
  obtain ⟨h3, h4⟩ := h2
  rw [h4]
  exact ⟨(bools l).drop (j.toNat + 1), rfl⟩
theorem getD_at {l : List Bool} {i : Nat} (h : i < l.length) : l[i]? = some (l.getD i false) := by
  rw [List.getD_eq_getElem?_getD, List.getElem?_eq_getElem h]; rfl
def zeroB (k : Nat) : List Bool := List.replicate (k + 1) false
theorem zeroB_len (k : Nat) : (zeroB k).length = k + 1 := by simp [zeroB]
def setsA (k : Nat) (F : List (List Bool)) : List A := F.map fun x => .psl (k + 1) (bools x)
def ownsA (k : Nat) (bs : List Nat) : List A := bs.map fun b => .own (some b) (k + 1) (k + 1)
def obsZ (k : Nat) (bs : List Nat) (F : List (List Bool)) : List Ob := List.zipWith (fun b x => ⟨some b, (k + 1) * 1, bools x⟩) bs F
theorem ownsA_len (k : Nat) (bs : List Nat) : (ownsA k bs).length = bs.length := by simp [ownsA]
theorem setsA_len (k : Nat) (F : List (List Bool)) : (setsA k F).length = F.length := by simp [setsA]
theorem ownsA_get {k : Nat} {bs : List Nat} {s b : Nat} (h : bs[s]? = some b) : (ownsA k bs)[s * 1]? = some (A.own (some b) (k + 1) (k + 1)) := by rw [Nat.mul_one]; simp [ownsA, h]
theorem obsZ_get {k : Nat} {bs : List Nat} {F : List (List Bool)} {s b : Nat} {x : List Bool} (hb : bs[s]? = some b) (hx : F[s]? = some x) : (obsZ k bs F)[s]? = some ⟨some b, (k + 1) * 1, bools x⟩ := by simp [obsZ, List.getElem?_zipWith, hb, hx]
theorem obsZ_set {k : Nat} : ∀ {bs : List Nat} {F : List (List Bool)} {s b : Nat} (y : List Bool), bs[s]? = some b → (obsZ k bs F).set s ⟨some b, (k + 1) * 1, bools y⟩ = obsZ k bs (F.set s y)
  | [], F, s, b, y, h => by simp at h
  | c :: bs, [], s, b, y, h => by simp [obsZ]
  | c :: bs, z :: F, 0, b, y, h => by simp at h; subst h; rfl
  | c :: bs, z :: F, s + 1, b, y, h => by
    have := obsZ_set (k := k) (F := F) y (by simpa using h : bs[s]? = some b)
    simp only [obsZ, List.zipWith_cons_cons, List.set_cons_succ] at this ⊢
    rw [this]
theorem obsZ_app {k : Nat} {bs cs : List Nat} {F H : List (List Bool)} (h : bs.length = F.length) : obsZ k (bs ++ cs) (F ++ H) = obsZ k bs F ++ obsZ k cs H := by
  unfold obsZ; rw [List.zipWith_append h]
theorem vw_bools {V : List Ob} (l : List Bool) : VwL V (bools l) (bools l) := VwL.rfl' _
theorem vw_sets {V : List Ob} {k : Nat} : ∀ {bs : List Nat} {F : List (List Bool)}, bs.length = F.length → (∀ x ∈ F, x.length = k + 1) → (∀ o ∈ obsZ k bs F, o ∈ V) → VwL V (ownsA k bs) (setsA k F)
  | [], [], _, _, _ => .nil
  | [], _ :: _, h, _, _ => by simp at h
  | _ :: _, [], h, _, _ => by simp at h
  | b :: bs, x :: F, hl, hx, hv => by
    refine .cons ?_ (vw_sets (by simpa using hl) (fun y hy => hx y (by simp [hy])) (fun o ho => hv o (by simp [obsZ] at ho ⊢; exact .inr ho)))
    exact .own (sz := 1) (room := (k + 1) * 1) (cs := bools x) (hv _ (by simp [obsZ])) rfl (by rw [bools_len, hx x (by simp), Nat.mul_one]) (by decide) (VwL.rfl' _)
theorem perm_at : ∀ {l : List Ob} {i : Nat} {y : Ob}, l[i]? = some y → l.Perm (y :: l.eraseIdx i)
  | [], i, y, h => by simp at h
  | x :: l, 0, y, h => by simp at h; subst h; exact .refl _
  | x :: l, i + 1, y, h => by
    simp at h
    exact ((perm_at h).cons x).trans (.swap _ _ _)
theorem perm_set : ∀ {l : List Ob} {i : Nat} (z : Ob), i < l.length → (z :: l.eraseIdx i).Perm (l.set i z)
  | [], i, z, h => by simp at h
  | x :: l, 0, z, h => .refl _
  | x :: l, i + 1, z, h => by
    simp at h
    exact (List.Perm.swap _ _ _).trans ((perm_set z h).cons x)
theorem looseL_bools : ∀ l : List Bool, looseL (bools l) = true
  | [] => rfl
  | x :: l => by simp only [bools, List.map_cons, looseL, looseA, Bool.true_and]; exact looseL_bools l
def zeroF (n k : Nat) : List (List Bool) := List.replicate n (zeroB k)
theorem zeroF_all {n k : Nat} : ∀ x ∈ zeroF n k, x.length = k + 1 := fun x hx => by rw [List.eq_of_mem_replicate hx]; exact zeroB_len k
theorem zeroF_len (n k : Nat) : (zeroF n k).length = n := by simp [zeroF]
def FOk (n k : Nat) (F : List (List Bool)) : Prop := F.length = n ∧ ∀ x ∈ F, x.length = k + 1
theorem nullI_len (g : Gr) : ∀ (q : Nat) (o : List Bool), (nullI g q o).length = o.length
  | 0, o => rfl
  | q + 1, o => by
    rw [nullI]
    split
    · rw [nullI_len g q]; unfold nullR; rw [nullL_len]
    · unfold nullR; rw [nullL_len]
theorem nullF_len (g : Gr) (n : Nat) : (nullF g n).length = n := by unfold nullF; rw [nullI_len]; simp
theorem set_self {o : List Bool} {q : Nat} {x : Bool} (h : o[q]? = some x) : o.set q x = o := by
  obtain ⟨h1, rfl⟩ := List.getElem?_eq_some_iff.1 h
  exact List.set_getElem_self h1
theorem fill_next {k n i b2 : Nat} {bs : List Nat} (hbs : bs.length = i) (hi : i < n) : (ownsA k bs ++ List.replicate (n - i) A.nils).take (i * 1) ++ ([A.own (some b2) (k + 1) (k + 1)] ++ (ownsA k bs ++ List.replicate (n - i) A.nils).drop (i * 1 + 1)) = ownsA k (bs ++ [b2]) ++ List.replicate (n - (i + 1)) A.nils := by
  have hl : (ownsA k bs).length = i := by rw [ownsA_len, hbs]
  rw [Nat.mul_one, List.take_append_of_le_length (by omega), List.take_of_length_le (by omega), List.drop_append, List.drop_of_length_le (by omega), hl, show i + 1 - i = 1 by omega, List.drop_replicate, show n - i - 1 = n - (i + 1) by omega]
  simp [ownsA]
theorem obs_at {k s b : Nat} {o0 : Ob} {bs : List Nat} {F : List (List Bool)} {x : List Bool} {M : List Ob} (hb : bs[s]? = some b) (hx : F[s]? = some x) : (o0 :: (obsZ k bs F ++ M))[s + 1]? = some ⟨some b, (k + 1) * 1, bools x⟩ := by
  have hg := obsZ_get (k := k) hb hx
  rw [List.getElem?_cons_succ, List.getElem?_append_left (List.getElem?_eq_some_iff.1 hg).1]; exact hg
theorem obs_set {k s b : Nat} {o0 : Ob} {bs : List Nat} {F : List (List Bool)} {x : List Bool} {M : List Ob} (hb : bs[s]? = some b) (hx : F[s]? = some x) (y : List Bool) : (o0 :: (obsZ k bs F ++ M)).set (s + 1) ⟨some b, (k + 1) * 1, bools y⟩ = o0 :: (obsZ k bs (F.set s y) ++ M) := by
  have hg := obsZ_get (k := k) hb hx
  rw [List.set_cons_succ, List.set_append_left _ _ (List.getElem?_eq_some_iff.1 hg).1, obsZ_set y hb]
theorem set_at {F : List (List Bool)} {s : Nat} {x : List Bool} (hx : F[s]? = some x) : F.set s x = F := by
  obtain ⟨h1, rfl⟩ := List.getElem?_eq_some_iff.1 hx
  exact List.set_getElem_self h1
end Go.Proofs.Ytnlmfhnjjblhoaa.Ab

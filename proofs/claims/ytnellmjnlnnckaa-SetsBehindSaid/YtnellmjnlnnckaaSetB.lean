/- Chapter 11's sets of what comes behind: plain laws and the walk of the program. No condition. -/
import Derived.Test.YtnellmjnlnnckaaSetA
set_option linter.unusedVariables false
set_option linter.unusedSimpArgs false
namespace Go.Proofs.Ytnellmjnlnnckaa.Ab
attribute [local irreducible] thenA inBlockA ACode AOps put IntKind.wrap

/-! ### a set joined to itself, to another one of the row -/
theorem orL_self (o : List Bool) : orL o o = o ∧ cameL o o = false := by
  have : cameL o o = false := by
    unfold cameL
    rw [List.any_eq_false]
    intro i _
    cases o.getD i false <;> simp
  exact ⟨orL_same this, this⟩
set_option maxHeartbeats 4000000 in
theorem joinSelf_calls {o : List Bool} {n : Nat} (b : Nat) (ho : o.length = n) (hn : n ≤ 1000000) (M : List Ob) :
    ACalls Try.prog 66 [.own (some b) n n, .own (some b) n n] (⟨some b, n * 1, bools o⟩ :: M) (fun r M' => r = .bool false ∧ M' = ⟨some b, n * 1, bools o⟩ :: M) := by
  refine acalls_of_code 38 Try.func66 rfl rfl rfl ?_
  repeat (first | refine aops_put rfl ?_ | refine aops_end ?_ | refine aops_endb ?_ | refine aops_o rfl rfl rfl ?_ | refine aops_max tok rfl rfl rfl rfl rfl rfl ?_ | refine aops_min tok rfl rfl rfl rfl rfl rfl ?_ | refine aops_a tok rfl (by omega) (by omega) rfl rfl rfl ?_ | refine aops_p tok rfl rfl rfl rfl ?_ | refine aops_ixa tok rfl rfl rfl (by decide) rfl rfl rfl rfl ?_ | refine aops_ld tok 0 rfl rfl rfl rfl rfl rfl rfl rfl ?_ | refine aops_ld tok 1 rfl rfl rfl rfl rfl rfl rfl rfl ?_ | refine aops_stn tok rfl rfl rfl rfl rfl rfl rfl rfl rfl ?_ | refine aops_stn1 tok rfl rfl rfl rfl rfl rfl rfl rfl rfl ?_ | refine acode_seq ?_ | refine acode_region ?_ | refine acode_block ?_ | refine acode_skip ?_ | refine then_n ?_ | refine block_n ?_)
  refine acode_loopS (ι := Nat) (fun q => [(0, .own (some b) n n), (8, .own (some b) n n), (9, .int .i64 n), (5, .bool false), (10, .int .i64 q)]) (fun q => ⟨some b, n * 1, bools o⟩ :: M) (fun q => n - q) (fun q => q ≤ n) 0 (Nat.zero_le _) ⟨rfl, rfl, rfl, rfl, rfl, trivial⟩ rfl ?_
  intro q hq
  repeat (first | refine aops_put rfl ?_ | refine aops_end ?_ | refine aops_endb ?_ | refine aops_o rfl rfl rfl ?_ | refine aops_max tok rfl rfl rfl rfl rfl rfl ?_ | refine aops_min tok rfl rfl rfl rfl rfl rfl ?_ | refine aops_a tok rfl (by omega) (by omega) rfl rfl rfl ?_ | refine aops_p tok rfl rfl rfl rfl ?_ | refine aops_ixa tok rfl rfl rfl (by decide) rfl rfl rfl rfl ?_ | refine aops_ld tok 0 rfl rfl rfl rfl rfl rfl rfl rfl ?_ | refine aops_ld tok 1 rfl rfl rfl rfl rfl rfl rfl rfl ?_ | refine aops_stn tok rfl rfl rfl rfl rfl rfl rfl rfl rfl ?_ | refine aops_stn1 tok rfl rfl rfl rfl rfl rfl rfl rfl rfl ?_ | refine acode_seq ?_ | refine acode_region ?_ | refine acode_block ?_ | refine acode_skip ?_ | refine then_n ?_ | refine block_n ?_)
  refine acode_id rfl (fun e => ?_) (fun e => ?_)
  · have hql : q < n := by omega
    have hoq := getD_at (l := o) (i := q) (by omega)
    obtain ⟨oq, eo⟩ : ∃ x, o.getD q false = x := ⟨_, rfl⟩
    rw [eo] at hoq
    have hse : bools (o.set q oq) = bools o := by rw [set_self hoq]
    repeat (first | refine aops_put rfl ?_ | refine aops_end ?_ | refine aops_endb ?_ | refine aops_o rfl rfl rfl ?_ | refine aops_max tok rfl rfl rfl rfl rfl rfl ?_ | refine aops_min tok rfl rfl rfl rfl rfl rfl ?_ | refine aops_a tok rfl (by omega) (by omega) rfl rfl rfl ?_ | refine aops_p tok rfl rfl rfl rfl ?_ | refine aops_ixa tok rfl rfl rfl (by decide) rfl rfl rfl rfl ?_ | refine aops_ld tok 0 rfl rfl rfl rfl rfl rfl rfl rfl ?_ | refine aops_ld tok 1 rfl rfl rfl rfl rfl rfl rfl rfl ?_ | refine aops_stn tok rfl rfl rfl rfl rfl rfl rfl rfl rfl ?_ | refine aops_stn1 tok rfl rfl rfl rfl rfl rfl rfl rfl rfl ?_ | refine acode_seq ?_ | refine acode_region ?_ | refine acode_block ?_ | refine acode_skip ?_ | refine then_n ?_ | refine block_n ?_)
    refine aops_ixo tok rfl rfl rfl rfl (by omega) (by omega) rfl rfl rfl ?_
    refine aops_ld tok 0 (y := .bool oq) rfl rfl rfl rfl (by rw [headed_eq]; exact bools_get hoq) rfl rfl rfl ?_
    cases oq <;> (
      repeat (first | refine aops_put rfl ?_ | refine aops_end ?_ | refine aops_endb ?_ | refine aops_o rfl rfl rfl ?_ | refine aops_max tok rfl rfl rfl rfl rfl rfl ?_ | refine aops_min tok rfl rfl rfl rfl rfl rfl ?_ | refine aops_a tok rfl (by omega) (by omega) rfl rfl rfl ?_ | refine aops_p tok rfl rfl rfl rfl ?_ | refine aops_ixa tok rfl rfl rfl (by decide) rfl rfl rfl rfl ?_ | refine aops_ld tok 0 rfl rfl rfl rfl rfl rfl rfl rfl ?_ | refine aops_ld tok 1 rfl rfl rfl rfl rfl rfl rfl rfl ?_ | refine aops_stn tok rfl rfl rfl rfl rfl rfl rfl rfl rfl ?_ | refine aops_stn1 tok rfl rfl rfl rfl rfl rfl rfl rfl rfl ?_ | refine acode_seq ?_ | refine acode_region ?_ | refine acode_block ?_ | refine acode_skip ?_ | refine then_n ?_ | refine block_n ?_)
      try (refine aops_ixo tok rfl rfl rfl rfl (by omega) (by omega) rfl rfl rfl ?_
           refine aops_ld tok 0 (y := .bool _) rfl rfl rfl rfl (by rw [headed_eq]; exact bools_get hoq) rfl rfl rfl ?_
           repeat (first | refine aops_put rfl ?_ | refine aops_end ?_ | refine aops_endb ?_ | refine aops_o rfl rfl rfl ?_ | refine aops_max tok rfl rfl rfl rfl rfl rfl ?_ | refine aops_min tok rfl rfl rfl rfl rfl rfl ?_ | refine aops_a tok rfl (by omega) (by omega) rfl rfl rfl ?_ | refine aops_p tok rfl rfl rfl rfl ?_ | refine aops_ixa tok rfl rfl rfl (by decide) rfl rfl rfl rfl ?_ | refine aops_ld tok 0 rfl rfl rfl rfl rfl rfl rfl rfl ?_ | refine aops_ld tok 1 rfl rfl rfl rfl rfl rfl rfl rfl ?_ | refine aops_stn tok rfl rfl rfl rfl rfl rfl rfl rfl rfl ?_ | refine aops_stn1 tok rfl rfl rfl rfl rfl rfl rfl rfl rfl ?_ | refine acode_seq ?_ | refine acode_region ?_ | refine acode_block ?_ | refine acode_skip ?_ | refine then_n ?_ | refine block_n ?_))
      try (refine aops_ixo tok rfl rfl rfl rfl (by omega) (by omega) rfl rfl rfl ?_
           refine aops_ld tok 0 (y := .bool _) rfl rfl rfl rfl (by rw [headed_eq]; exact bools_get hoq) rfl rfl rfl ?_
           repeat (first | refine aops_put rfl ?_ | refine aops_end ?_ | refine aops_endb ?_ | refine aops_o rfl rfl rfl ?_ | refine aops_max tok rfl rfl rfl rfl rfl rfl ?_ | refine aops_min tok rfl rfl rfl rfl rfl rfl ?_ | refine aops_a tok rfl (by omega) (by omega) rfl rfl rfl ?_ | refine aops_p tok rfl rfl rfl rfl ?_ | refine aops_ixa tok rfl rfl rfl (by decide) rfl rfl rfl rfl ?_ | refine aops_ld tok 0 rfl rfl rfl rfl rfl rfl rfl rfl ?_ | refine aops_ld tok 1 rfl rfl rfl rfl rfl rfl rfl rfl ?_ | refine aops_stn tok rfl rfl rfl rfl rfl rfl rfl rfl rfl ?_ | refine aops_stn1 tok rfl rfl rfl rfl rfl rfl rfl rfl rfl ?_ | refine acode_seq ?_ | refine acode_region ?_ | refine acode_block ?_ | refine acode_skip ?_ | refine then_n ?_ | refine block_n ?_))
      refine aops_ixo tok rfl rfl rfl rfl (by omega) (by omega) rfl rfl rfl ?_
      refine aops_sto tok (bools o) rfl rfl rfl rfl rfl (by rw [bools_len, ho]; show q * 1 + 1 ≤ _; omega) (by rw [← hse]; rw [hse]; exact (bools_set (by omega) _).trans hse) rfl rfl ?_
      repeat (first | refine aops_put rfl ?_ | refine aops_end ?_ | refine aops_endb ?_ | refine aops_o rfl rfl rfl ?_ | refine aops_max tok rfl rfl rfl rfl rfl rfl ?_ | refine aops_min tok rfl rfl rfl rfl rfl rfl ?_ | refine aops_a tok rfl (by omega) (by omega) rfl rfl rfl ?_ | refine aops_p tok rfl rfl rfl rfl ?_ | refine aops_ixa tok rfl rfl rfl (by decide) rfl rfl rfl rfl ?_ | refine aops_ld tok 0 rfl rfl rfl rfl rfl rfl rfl rfl ?_ | refine aops_ld tok 1 rfl rfl rfl rfl rfl rfl rfl rfl ?_ | refine aops_stn tok rfl rfl rfl rfl rfl rfl rfl rfl rfl ?_ | refine aops_stn1 tok rfl rfl rfl rfl rfl rfl rfl rfl rfl ?_ | refine acode_seq ?_ | refine acode_region ?_ | refine acode_block ?_ | refine acode_skip ?_ | refine then_n ?_ | refine block_n ?_)
      exact ⟨q + 1, by omega, by omega, ⟨rfl, rfl, rfl, rfl, rfl, trivial⟩, rfl⟩)
  · have hge : q = n := by omega
    subst hge
    refine acode_exit ?_
    repeat (first | refine exit_then ?_ | refine exit_here ?_ | refine exit_out rfl ?_ | refine ret_then ?_ | refine ret_block ?_ | refine then_n ?_ | refine block_n ?_)
    repeat (first | refine aops_put rfl ?_ | refine aops_end ?_ | refine aops_endb ?_ | refine aops_o rfl rfl rfl ?_ | refine aops_max tok rfl rfl rfl rfl rfl rfl ?_ | refine aops_min tok rfl rfl rfl rfl rfl rfl ?_ | refine aops_a tok rfl (by omega) (by omega) rfl rfl rfl ?_ | refine aops_p tok rfl rfl rfl rfl ?_ | refine aops_ixa tok rfl rfl rfl (by decide) rfl rfl rfl rfl ?_ | refine aops_ld tok 0 rfl rfl rfl rfl rfl rfl rfl rfl ?_ | refine aops_ld tok 1 rfl rfl rfl rfl rfl rfl rfl rfl ?_ | refine aops_stn tok rfl rfl rfl rfl rfl rfl rfl rfl rfl ?_ | refine aops_stn1 tok rfl rfl rfl rfl rfl rfl rfl rfl rfl ?_ | refine acode_seq ?_ | refine acode_region ?_ | refine acode_block ?_ | refine acode_skip ?_ | refine then_n ?_ | refine block_n ?_)
    refine acode_ret ?_
    repeat (first | refine exit_then ?_ | refine exit_here ?_ | refine exit_out rfl ?_ | refine ret_then ?_ | refine ret_block ?_ | refine then_n ?_ | refine block_n ?_)
    exact ⟨_, ⟨rfl, rfl⟩, resOf_tmp rfl⟩
theorem joinSelfN_calls {k : Nat} {bs : List Nat} {F : List (List Bool)} {s b : Nat} {x : List Bool} (hb : bs[s]? = some b) (hx : F[s]? = some x) (hxl : x.length = k + 1) (hk : k ≤ 1000) (a0 : List Ob) (M : List Ob) :
    ACalls Try.prog 66 [.own (some b) (k + 1) (k + 1), .own (some b) (k + 1) (k + 1)] (a0 ++ (obsZ k bs F ++ M)) (fun r M' => r = .bool false ∧ M' = a0 ++ (obsZ k bs F ++ M)) := by
  have hg := obsZ_get (k := k) hb hx
  have hlt := (List.getElem?_eq_some_iff.1 hg).1
  refine acalls_perm (M := ⟨some b, (k + 1) * 1, bools x⟩ :: (a0 ++ ((obsZ k bs F).eraseIdx s ++ M))) ?_ (joinSelf_calls b hxl (by omega) _) ?_
  · exact (((perm_at hg).append_right M).append_left a0).trans List.perm_middle
  · rintro r M' ⟨rfl, rfl⟩
    refine ⟨_, ?_, rfl, rfl⟩
    have h2 := obsZ_set (k := k) (F := F) x hb
    rw [set_at hx] at h2
    have h3 : (⟨some b, (k + 1) * 1, bools x⟩ :: (obsZ k bs F).eraseIdx s).Perm (obsZ k bs F) := (perm_at hg).symm
    exact List.perm_middle.symm.trans ((h3.append_right M).append_left a0)
theorem joinV_calls {k : Nat} {bs : List Nat} {F : List (List Bool)} {s t b c : Nat} {x y : List Bool} (hst : t ≠ s) (hb : bs[s]? = some b) (hx : F[s]? = some x) (hc : bs[t]? = some c) (hy : F[t]? = some y) (hxl : x.length = k + 1) (hyl : y.length = k + 1) (hk : k ≤ 1000) (a0 : List Ob) (M : List Ob) :
    ACalls Try.prog 66 [.own (some b) (k + 1) (k + 1), .own (some c) (k + 1) (k + 1)] (a0 ++ (obsZ k bs F ++ M)) (fun r M' => r = .bool (cameL x y) ∧ M' = a0 ++ (obsZ k bs (F.set s (orL x y)) ++ M)) := by
  have hg := obsZ_get (k := k) hb hx
  have hg2 := obsZ_get (k := k) hc hy
  have hlt := (List.getElem?_eq_some_iff.1 hg).1
  have hmem : (⟨some c, (k + 1) * 1, bools y⟩ : Ob) ∈ a0 ++ ((obsZ k bs F).eraseIdx s ++ M) := by
    refine List.mem_append_right _ (List.mem_append_left _ ?_)
    exact List.mem_eraseIdx_iff_getElem?.2 ⟨t, hst, hg2⟩
  have hcall := acalls_part (V := a0 ++ ((obsZ k bs F).eraseIdx s ++ M)) (W := [⟨some b, (k + 1) * 1, bools x⟩]) («as» := [.own (some b) (k + 1) (k + 1), .own (some c) (k + 1) (k + 1)]) (.cons (.refl _) (.cons (.own (sz := 1) hmem rfl (by rw [bools_len, hyl, Nat.mul_one]) (by decide) (vw_bools y)) .nil)) (join_calls b hxl hyl (by omega) []) (by
    rintro r M' ⟨rfl, rfl⟩
    refine ⟨rfl, fun o ho => ?_⟩
    simp at ho; subst ho; exact looseL_bools _)
  refine acalls_perm (M := ⟨some b, (k + 1) * 1, bools x⟩ :: (a0 ++ ((obsZ k bs F).eraseIdx s ++ M))) ?_ hcall ?_
  · exact (((perm_at hg).append_right M).append_left a0).trans List.perm_middle
  · rintro r M' ⟨M1, ⟨rfl, rfl⟩, rfl⟩
    refine ⟨_, ?_, rfl, rfl⟩
    rw [← obsZ_set (k := k) (F := F) (orL x y) hb]
    exact (List.perm_middle (l₁ := a0)).symm.trans (((perm_set _ hlt).append_right M).append_left a0)

/-! ### what a rule tells -/
def followJ (s t : Nat) (f : List Bool) (e : Bool) (x : List (List Bool) × Bool) : List (List Bool) × Bool := if e = true then joinS s ((joinS s f x).1.getD t []) (joinS s f x) else joinS s f x
def follow1 (null : List Bool) (F : List (List Bool)) (k : Nat) (r : Ru) (x : List (List Bool) × Bool) (i : Nat) : List (List Bool) × Bool :=
  let s := r.right.getD i 0
  if 0 ≤ s then followJ s.toNat r.left.toNat (ofF null F (zeroB k) (r.right.drop (i + 1))).1 (ofF null F (zeroB k) (r.right.drop (i + 1))).2 x else x
def followS (null : List Bool) (F : List (List Bool)) (k : Nat) (x : List (List Bool) × Bool) (r : Ru) : List (List Bool) × Bool := (List.range r.right.length).foldl (follow1 null F k r) x
def followR (null : List Bool) (F : List (List Bool)) (k : Nat) (rs : List Ru) (O : List (List Bool)) : List (List Bool) × Bool := rs.foldl (followS null F k) (O, false)
def follow0 (g : Gr) (n k : Nat) : List (List Bool) := (zeroF n k).set g.start.toNat ((zeroB k).set k true)
def followF (g : Gr) (n k : Nat) : List (List Bool) := fixI (followR (nullF g n) (firstF g n k) k (reachedL g n)) (n * (k + 1) + 1) (follow0 g n k)
theorem joinS_gw {n k : Nat} {s : Nat} (f : List Bool) (x : List (List Bool) × Bool) (hs : s < n) : Gw (FOk n k) totF x (joinS s f x) := fun h =>
  ⟨⟨by rw [joinS_len]; exact h.1, joinS_all _ _ _ h.2⟩, joinS_cnt s f x (by rw [h.1]; exact hs)⟩
theorem followJ_gw {n k : Nat} {s t : Nat} (f : List Bool) (e : Bool) (x : List (List Bool) × Bool) (hs : s < n) : Gw (FOk n k) totF x (followJ s t f e x) := by
  unfold followJ
  split
  · exact gw_trans (joinS_gw f x hs) (joinS_gw _ _ hs)
  · exact joinS_gw f x hs
theorem follow1_gw {g : Gr} {n k : Nat} {null : List Bool} {F : List (List Bool)} {r : Ru} (hn : g.names = n) (hs : ∀ s ∈ r.right, isSym g s) (i : Nat) (hi : i < r.right.length) (x : List (List Bool) × Bool) : Gw (FOk n k) totF x (follow1 null F k r x i) := by
  unfold follow1
  have hm : r.right.getD i 0 ∈ r.right := by rw [List.getD_eq_getElem?_getD, List.getElem?_eq_getElem hi]; exact List.getElem_mem hi
  have h2 := hs _ hm
  simp only
  split
  · rename_i h0
    refine followJ_gw _ _ _ ?_
    have := h2.resolve_left (fun h3 => by unfold isKind at h3; omega)
    unfold isName at this
    omega
  · exact gw_refl x
theorem followS_gw {g : Gr} {n k : Nat} {null : List Bool} {F : List (List Bool)} {r : Ru} (hn : g.names = n) (hs : ∀ s ∈ r.right, isSym g s) (x : List (List Bool) × Bool) : Gw (FOk n k) totF x (followS null F k x r) :=
  gw_fold _ _ fun i hi y => follow1_gw hn hs i (by simpa using hi) y
theorem followR_gw {g : Gr} {n k : Nat} {null : List Bool} {F : List (List Bool)} {rs : List Ru} (hn : g.names = n) (hs : ∀ r ∈ rs, ∀ s ∈ r.right, isSym g s) (O : List (List Bool)) : Gw (FOk n k) totF (O, false) (followR null F k rs O) :=
  gw_fold _ _ fun r hr y => followS_gw hn (hs r hr) y
theorem joinS_or (s : Nat) (f : List Bool) : OrP (joinS s f) := fun O m => by simp [joinS]
theorem followJ_or (s t : Nat) (f : List Bool) (e : Bool) : OrP (followJ s t f e) := fun O m => by
  unfold followJ joinS
  cases e <;> simp [Bool.or_assoc]
theorem follow1_or (null : List Bool) (F : List (List Bool)) (k : Nat) (r : Ru) (i : Nat) : OrP fun x => follow1 null F k r x i := fun O m => by
  unfold follow1
  simp only
  split
  · exact followJ_or _ _ _ _ O m
  · simp
theorem followS_or (null : List Bool) (F : List (List Bool)) (k : Nat) (r : Ru) : OrP fun x => followS null F k x r := or_fold _ fun i _ => follow1_or null F k r i
theorem follow0_ok (g : Gr) (n k : Nat) : FOk n k (follow0 g n k) := ⟨by simp [follow0, zeroF_len], fun x hx => by
  rcases List.mem_or_eq_of_mem_set hx with h | rfl
  · exact zeroF_all x h
  · simp [zeroB]⟩
theorem count_le : ∀ {k : Nat} {F : List (List Bool)}, (∀ x ∈ F, x.length = k + 1) → totF F ≤ F.length * (k + 1)
  | k, [], _ => by simp [totF]
  | k, x :: F, h => by
    have h1 := count_le (F := F) fun y hy => h y (by simp [hy])
    have h2 := List.count_le_length (a := false) (l := x)
    rw [h x (by simp)] at h2
    simp only [totF, List.map_cons, List.sum_cons, List.length_cons] at h1 ⊢
    rw [Nat.add_mul]; omega
theorem follow0_cnt (g : Gr) (n k : Nat) : totF (follow0 g n k) < n * (k + 1) + 1 := by
  obtain ⟨h1, h2⟩ := follow0_ok g n k
  have := count_le h2
  rw [h1] at this; omega
theorem followF_ok {g : Gr} {n k : Nat} (hn : g.names = n) (hs : ∀ r ∈ g.rules, ∀ s ∈ r.right, isSym g s) : FOk n k (followF g n k) :=
  fixI_ok (p := FOk n k) (fun O h => (followR_gw hn (fun r hr => hs r (List.mem_filter.1 hr).1) O h).1) _ _ (follow0_ok g n k)
theorem ints_drop {l : List Int} {j : Int} {i : Nat} (hj : j.toNat = i) : ((ints l).drop (j.toNat * 1)).take ((l.drop i).length * 1) = ints (l.drop i) := by
  rw [Nat.mul_one, Nat.mul_one, hj, List.take_of_length_le (by simp [ints])]
  simp [ints, List.map_drop]

/-! ### the walk -/
set_option maxHeartbeats 8000000 in
theorem follow_calls {g : Gr} {n k fb cap : Nat} {null : List Bool} {F O : List (List Bool)} {bs : List Nat} {r : Ru} (hn : g.names = n) (hn2 : n ≤ 1000) (hk : g.kinds = k) (hk2 : k ≤ 1000) (hnl : null.length = n) (hF : FOk n k F) (hO : FOk n k O) (hbs : bs.length = n) (hl : r.right.length ≤ 1000) (hr : ∀ s ∈ r.right, rng s) (hs : ∀ s ∈ r.right, isSym g s) (hw : isName g r.left) (M : List Ob) :
    ACalls Try.prog 53 [.pp (knC g n k null F), .own (some fb) n cap, .agg (ruC r)] (⟨some fb, cap * 1, ownsA k bs⟩ :: (obsZ k bs O ++ M)) (fun y M' => y = .bool (followS null F k (O, false) r).2 ∧ M' = ⟨some fb, cap * 1, ownsA k bs⟩ :: (obsZ k bs (followS null F k (O, false) r).1 ++ M)) := by
  obtain ⟨l0, l1⟩ := id hw
  refine acalls_of_code 62 Try.func53 rfl rfl rfl ?_
  repeat (first | refine aops_put rfl ?_ | refine aops_end ?_ | refine aops_endb ?_ | refine aops_o rfl rfl rfl ?_ | refine aops_max tok rfl rfl rfl rfl rfl rfl ?_ | refine aops_min tok rfl rfl rfl rfl rfl rfl ?_ | refine aops_a tok rfl (by omega) (by omega) rfl rfl rfl ?_ | refine aops_p tok rfl rfl rfl rfl ?_ | refine aops_ixa tok rfl rfl rfl (by decide) rfl rfl rfl rfl ?_ | refine aops_ld tok 0 rfl rfl rfl rfl rfl rfl rfl rfl ?_ | refine aops_ld tok 1 rfl rfl rfl rfl rfl rfl rfl rfl ?_ | refine aops_stn tok rfl rfl rfl rfl rfl rfl rfl rfl rfl ?_ | refine aops_stn1 tok rfl rfl rfl rfl rfl rfl rfl rfl rfl ?_ | refine acode_seq ?_ | refine acode_region ?_ | refine acode_block ?_ | refine acode_skip ?_ | refine then_n ?_ | refine block_n ?_)
  refine aops_boxf rfl rfl rfl rfl rfl rfl rfl ?_
  repeat (first | refine aops_put rfl ?_ | refine aops_end ?_ | refine aops_endb ?_ | refine aops_o rfl rfl rfl ?_ | refine aops_max tok rfl rfl rfl rfl rfl rfl ?_ | refine aops_min tok rfl rfl rfl rfl rfl rfl ?_ | refine aops_a tok rfl (by omega) (by omega) rfl rfl rfl ?_ | refine aops_p tok rfl rfl rfl rfl ?_ | refine aops_ixa tok rfl rfl rfl (by decide) rfl rfl rfl rfl ?_ | refine aops_ld tok 0 rfl rfl rfl rfl rfl rfl rfl rfl ?_ | refine aops_ld tok 1 rfl rfl rfl rfl rfl rfl rfl rfl ?_ | refine aops_stn tok rfl rfl rfl rfl rfl rfl rfl rfl rfl ?_ | refine aops_stn1 tok rfl rfl rfl rfl rfl rfl rfl rfl rfl ?_ | refine acode_seq ?_ | refine acode_region ?_ | refine acode_block ?_ | refine acode_skip ?_ | refine then_n ?_ | refine block_n ?_)
  refine acode_loopS (ι := Nat × List (List Bool) × Bool) (fun p => [(0, .pp (knC g n k null F)), (1, .own (some fb) n cap), (5, .pp (ruC r)), (7, .bool p.2.2), (13, .psl r.right.length (ints r.right)), (14, .int .i64 r.right.length), (15, .int .i64 p.1)]) (fun p => ⟨some fb, cap * 1, ownsA k bs⟩ :: (obsZ k bs p.2.1 ++ M)) (fun p => r.right.length - p.1) (fun p => p.1 ≤ r.right.length ∧ FOk n k p.2.1 ∧ ((List.range r.right.length).drop p.1).foldl (follow1 null F k r) (p.2.1, p.2.2) = followS null F k (O, false) r) (0, O, false) ⟨Nat.zero_le _, hO, rfl⟩ ⟨rfl, rfl, rfl, rfl, rfl, rfl, rfl, trivial⟩ rfl ?_
  rintro ⟨i, O1, m1⟩ ⟨hi, hO1, hfold⟩
  simp only at hi hO1 hfold ⊢
  repeat (first | refine aops_put rfl ?_ | refine aops_end ?_ | refine aops_endb ?_ | refine aops_o rfl rfl rfl ?_ | refine aops_max tok rfl rfl rfl rfl rfl rfl ?_ | refine aops_min tok rfl rfl rfl rfl rfl rfl ?_ | refine aops_a tok rfl (by omega) (by omega) rfl rfl rfl ?_ | refine aops_p tok rfl rfl rfl rfl ?_ | refine aops_ixa tok rfl rfl rfl (by decide) rfl rfl rfl rfl ?_ | refine aops_ld tok 0 rfl rfl rfl rfl rfl rfl rfl rfl ?_ | refine aops_ld tok 1 rfl rfl rfl rfl rfl rfl rfl rfl ?_ | refine aops_stn tok rfl rfl rfl rfl rfl rfl rfl rfl rfl ?_ | refine aops_stn1 tok rfl rfl rfl rfl rfl rfl rfl rfl rfl ?_ | refine acode_seq ?_ | refine acode_region ?_ | refine acode_block ?_ | refine acode_skip ?_ | refine then_n ?_ | refine block_n ?_)
  refine acode_id rfl (fun e => ?_) (fun e => ?_)
  · have hil : i < r.right.length := by omega
    obtain ⟨s, hsx⟩ : ∃ s, r.right[i]? = some s := ⟨r.right[i], List.getElem?_eq_getElem hil⟩
    have hsm := List.mem_of_getElem? hsx
    have hsd : r.right.getD i 0 = s := by rw [List.getD_eq_getElem?_getD, hsx]; rfl
    have hss := hs s hsm
    have hdr : (List.range r.right.length).drop i = i :: (List.range r.right.length).drop (i + 1) := by
      rw [List.drop_eq_getElem_cons (by simpa using hil)]; simp
    rw [hdr, List.foldl_cons] at hfold
    have hgw := follow1_gw (k := k) (null := null) (F := F) hn hs i hil (O1, m1) hO1
    repeat (first | refine aops_put rfl ?_ | refine aops_end ?_ | refine aops_endb ?_ | refine aops_o rfl rfl rfl ?_ | refine aops_max tok rfl rfl rfl rfl rfl rfl ?_ | refine aops_min tok rfl rfl rfl rfl rfl rfl ?_ | refine aops_a tok rfl (by omega) (by omega) rfl rfl rfl ?_ | refine aops_p tok rfl rfl rfl rfl ?_ | refine aops_ixa tok rfl rfl rfl (by decide) rfl rfl rfl rfl ?_ | refine aops_ld tok 0 rfl rfl rfl rfl rfl rfl rfl rfl ?_ | refine aops_ld tok 1 rfl rfl rfl rfl rfl rfl rfl rfl ?_ | refine aops_stn tok rfl rfl rfl rfl rfl rfl rfl rfl rfl ?_ | refine aops_stn1 tok rfl rfl rfl rfl rfl rfl rfl rfl rfl ?_ | refine acode_seq ?_ | refine acode_region ?_ | refine acode_block ?_ | refine acode_skip ?_ | refine then_n ?_ | refine block_n ?_)
    refine aops_ix tok [A.int .i64 s] rfl rfl rfl rfl (by omega) (by omega) (by simp) (ints_at (j := i) (by simpa using hsx)) rfl rfl rfl ?_
    repeat (first | refine aops_put rfl ?_ | refine aops_end ?_ | refine aops_endb ?_ | refine aops_o rfl rfl rfl ?_ | refine aops_max tok rfl rfl rfl rfl rfl rfl ?_ | refine aops_min tok rfl rfl rfl rfl rfl rfl ?_ | refine aops_a tok rfl (by omega) (by omega) rfl rfl rfl ?_ | refine aops_p tok rfl rfl rfl rfl ?_ | refine aops_ixa tok rfl rfl rfl (by decide) rfl rfl rfl rfl ?_ | refine aops_ld tok 0 rfl rfl rfl rfl rfl rfl rfl rfl ?_ | refine aops_ld tok 1 rfl rfl rfl rfl rfl rfl rfl rfl ?_ | refine aops_stn tok rfl rfl rfl rfl rfl rfl rfl rfl rfl ?_ | refine aops_stn1 tok rfl rfl rfl rfl rfl rfl rfl rfl rfl ?_ | refine acode_seq ?_ | refine acode_region ?_ | refine acode_block ?_ | refine acode_skip ?_ | refine then_n ?_ | refine block_n ?_)
    refine aops_callb Try.func70 rfl rfl rfl rfl (isName_calls _) rfl rfl rfl (fun hname => ?_) (fun hname => ?_)
    rotate_left
    · have hst : follow1 null F k r (O1, m1) i = (O1, m1) := by
        unfold follow1
        simp only [hsd]
        rw [if_neg (fun h0 => hname (hss.resolve_left (fun h1 => by unfold isKind at h1; omega)))]
      rw [hst] at hfold
      repeat' (first | refine aops_put rfl ?_ | refine aops_end ?_ | refine aops_endb ?_ | refine aops_o rfl rfl rfl ?_ | refine aops_max tok rfl rfl rfl rfl rfl rfl ?_ | refine aops_min tok rfl rfl rfl rfl rfl rfl ?_ | refine aops_a tok rfl (by omega) (by omega) rfl rfl rfl ?_ | (refine aops_pd tok rfl rfl rfl rfl ?_ ?_ <;> intro e_) | (refine aops_pe tok rfl rfl rfl rfl ?_ ?_ <;> intro e_) | (refine aops_pn tok rfl rfl rfl rfl ?_ ?_ <;> intro e_) | refine aops_p tok rfl rfl rfl rfl ?_ | refine acode_it rfl ?_ | refine acode_if rfl ?_ | refine aops_ixa tok rfl rfl rfl (by decide) rfl rfl rfl rfl ?_ | refine aops_ld tok 0 rfl rfl rfl rfl rfl rfl rfl rfl ?_ | refine aops_ld tok 1 rfl rfl rfl rfl rfl rfl rfl rfl ?_ | refine aops_stn tok rfl rfl rfl rfl rfl rfl rfl rfl rfl ?_ | refine aops_stn1 tok rfl rfl rfl rfl rfl rfl rfl rfl rfl ?_ | refine acode_seq ?_ | refine acode_region ?_ | refine acode_block ?_ | refine acode_skip ?_ | refine then_n ?_ | refine block_n ?_)
      refine acode_exit ?_
      repeat (first | refine exit_then ?_ | refine exit_here ?_ | refine exit_out rfl ?_ | refine ret_then ?_ | refine ret_block ?_ | refine then_n ?_ | refine block_n ?_)
      repeat (first | refine aops_put rfl ?_ | refine aops_end ?_ | refine aops_endb ?_ | refine aops_o rfl rfl rfl ?_ | refine aops_max tok rfl rfl rfl rfl rfl rfl ?_ | refine aops_min tok rfl rfl rfl rfl rfl rfl ?_ | refine aops_a tok rfl (by omega) (by omega) rfl rfl rfl ?_ | refine aops_p tok rfl rfl rfl rfl ?_ | refine aops_ixa tok rfl rfl rfl (by decide) rfl rfl rfl rfl ?_ | refine aops_ld tok 0 rfl rfl rfl rfl rfl rfl rfl rfl ?_ | refine aops_ld tok 1 rfl rfl rfl rfl rfl rfl rfl rfl ?_ | refine aops_stn tok rfl rfl rfl rfl rfl rfl rfl rfl rfl ?_ | refine aops_stn1 tok rfl rfl rfl rfl rfl rfl rfl rfl rfl ?_ | refine acode_seq ?_ | refine acode_region ?_ | refine acode_block ?_ | refine acode_skip ?_ | refine then_n ?_ | refine block_n ?_)
      exact ⟨(i + 1, O1, m1), ⟨by simp; omega, hO1, hfold⟩, by simp; omega, ⟨rfl, rfl, rfl, rfl, rfl, rfl, rfl, trivial⟩, rfl⟩
    obtain ⟨n0, n1⟩ := id hname
    have hst : follow1 null F k r (O1, m1) i = followJ s.toNat r.left.toNat (ofF null F (zeroB k) (r.right.drop (i + 1))).1 (ofF null F (zeroB k) (r.right.drop (i + 1))).2 (O1, m1) := by
      unfold follow1
      simp only [hsd]
      rw [if_pos n0]
    have hdl : ∀ y ∈ r.right.drop (i + 1), y ∈ r.right := fun y hy => List.mem_of_mem_drop hy
    have hof := of_calls (g := g) (n := n) (k := k) (null := null) (F := F) (l := r.right.drop (i + 1)) hn hk hk2 hnl hF.1 hF.2 (by rw [List.length_drop]; omega) (fun y hy => hr y (hdl y hy)) (fun y hy => hs y (hdl y hy)) (⟨some fb, cap * 1, ownsA k bs⟩ :: (obsZ k bs O1 ++ M))
    have hfl : (ofF null F (zeroB k) (r.right.drop (i + 1))).1.length = k + 1 := by rw [ofF_len, zeroB_len]
    rw [hst] at hfold hgw
    generalize (ofF null F (zeroB k) (r.right.drop (i + 1))).2 = e2 at *
    generalize (ofF null F (zeroB k) (r.right.drop (i + 1))).1 = f at *
    obtain ⟨x, hx⟩ : ∃ x, O1[s.toNat]? = some x := ⟨O1[s.toNat]'(by rw [hO1.1]; omega), List.getElem?_eq_getElem (by rw [hO1.1]; omega)⟩
    have hxl := hO1.2 x (List.mem_of_getElem? hx)
    have hxd : O1.getD s.toNat [] = x := by rw [List.getD_eq_getElem?_getD, hx]; rfl
    obtain ⟨b, hb⟩ : ∃ b, bs[s.toNat]? = some b := ⟨bs[s.toNat]'(by omega), List.getElem?_eq_getElem (by omega)⟩
    have hj1 : joinS s.toNat f (O1, m1) = (O1.set s.toNat (orL x f), cameL x f || m1) := by unfold joinS; simp only [hxd]
    repeat' (first | refine aops_put rfl ?_ | refine aops_end ?_ | refine aops_endb ?_ | refine aops_o rfl rfl rfl ?_ | refine aops_max tok rfl rfl rfl rfl rfl rfl ?_ | refine aops_min tok rfl rfl rfl rfl rfl rfl ?_ | refine aops_a tok rfl (by omega) (by omega) rfl rfl rfl ?_ | (refine aops_pd tok rfl rfl rfl rfl ?_ ?_ <;> intro e_) | (refine aops_pe tok rfl rfl rfl rfl ?_ ?_ <;> intro e_) | (refine aops_pn tok rfl rfl rfl rfl ?_ ?_ <;> intro e_) | refine aops_p tok rfl rfl rfl rfl ?_ | refine acode_it rfl ?_ | refine acode_if rfl ?_ | refine aops_ixa tok rfl rfl rfl (by decide) rfl rfl rfl rfl ?_ | refine aops_ld tok 0 rfl rfl rfl rfl rfl rfl rfl rfl ?_ | refine aops_ld tok 1 rfl rfl rfl rfl rfl rfl rfl rfl ?_ | refine aops_stn tok rfl rfl rfl rfl rfl rfl rfl rfl rfl ?_ | refine aops_stn1 tok rfl rfl rfl rfl rfl rfl rfl rfl rfl ?_ | refine acode_seq ?_ | refine acode_region ?_ | refine acode_block ?_ | refine acode_skip ?_ | refine then_n ?_ | refine block_n ?_)
    refine aops_slc tok (r.right.drop (i + 1)).length (ints (r.right.drop (i + 1))) rfl rfl rfl rfl rfl (by omega) (by omega) (by omega) (by rw [List.length_drop]; omega) (by rw [ints_len]; exact (Nat.mul_one _).symm) (ints_drop (by omega)) rfl rfl rfl ?_
    repeat (first | refine aops_put rfl ?_ | refine aops_end ?_ | refine aops_endb ?_ | refine aops_o rfl rfl rfl ?_ | refine aops_max tok rfl rfl rfl rfl rfl rfl ?_ | refine aops_min tok rfl rfl rfl rfl rfl rfl ?_ | refine aops_a tok rfl (by omega) (by omega) rfl rfl rfl ?_ | refine aops_p tok rfl rfl rfl rfl ?_ | refine aops_ixa tok rfl rfl rfl (by decide) rfl rfl rfl rfl ?_ | refine aops_ld tok 0 rfl rfl rfl rfl rfl rfl rfl rfl ?_ | refine aops_ld tok 1 rfl rfl rfl rfl rfl rfl rfl rfl ?_ | refine aops_stn tok rfl rfl rfl rfl rfl rfl rfl rfl rfl ?_ | refine aops_stn1 tok rfl rfl rfl rfl rfl rfl rfl rfl rfl ?_ | refine acode_seq ?_ | refine acode_region ?_ | refine acode_block ?_ | refine acode_skip ?_ | refine then_n ?_ | refine block_n ?_)
    refine aops_call Try.func48 rfl rfl rfl rfl hof rfl rfl ?_
    rintro y M' ⟨b3, rfl, rfl⟩
    repeat (first | refine aops_put rfl ?_ | refine aops_o rfl rfl rfl ?_ | refine aops_max tok rfl rfl rfl rfl rfl rfl ?_ | refine aops_min tok rfl rfl rfl rfl rfl rfl ?_ | refine aops_a tok rfl (by omega) (by omega) rfl rfl rfl ?_ | refine aops_p tok rfl rfl rfl rfl ?_ | refine aops_ixa tok rfl rfl rfl (by decide) rfl rfl rfl rfl ?_ | refine aops_ld tok 0 rfl rfl rfl rfl rfl rfl rfl rfl ?_ | refine aops_ld tok 1 rfl rfl rfl rfl rfl rfl rfl rfl ?_ | refine aops_stn tok rfl rfl rfl rfl rfl rfl rfl rfl rfl ?_ | refine aops_stn1 tok rfl rfl rfl rfl rfl rfl rfl rfl rfl ?_)
    refine aops_end ?_
    refine acode_pub0 10 1 rfl rfl (by rw [bools_len, hfl, Nat.mul_one]) rfl ?_
    repeat (first | refine aops_put rfl ?_ | refine aops_end ?_ | refine aops_endb ?_ | refine aops_o rfl rfl rfl ?_ | refine aops_max tok rfl rfl rfl rfl rfl rfl ?_ | refine aops_min tok rfl rfl rfl rfl rfl rfl ?_ | refine aops_a tok rfl (by omega) (by omega) rfl rfl rfl ?_ | refine aops_p tok rfl rfl rfl rfl ?_ | refine aops_ixa tok rfl rfl rfl (by decide) rfl rfl rfl rfl ?_ | refine aops_ld tok 0 rfl rfl rfl rfl rfl rfl rfl rfl ?_ | refine aops_ld tok 1 rfl rfl rfl rfl rfl rfl rfl rfl ?_ | refine aops_stn tok rfl rfl rfl rfl rfl rfl rfl rfl rfl ?_ | refine aops_stn1 tok rfl rfl rfl rfl rfl rfl rfl rfl rfl ?_ | refine acode_seq ?_ | refine acode_region ?_ | refine acode_block ?_ | refine acode_skip ?_ | refine then_n ?_ | refine block_n ?_)
    refine aops_ixo tok rfl rfl rfl rfl n0 (by omega) rfl rfl rfl ?_
    refine aops_ld tok 0 (y := .own (some b) (k + 1) (k + 1)) rfl rfl rfl rfl (by rw [headed_eq]; exact ownsA_get hb) rfl rfl rfl ?_
    repeat (first | refine aops_put rfl ?_ | refine aops_end ?_ | refine aops_endb ?_ | refine aops_o rfl rfl rfl ?_ | refine aops_max tok rfl rfl rfl rfl rfl rfl ?_ | refine aops_min tok rfl rfl rfl rfl rfl rfl ?_ | refine aops_a tok rfl (by omega) (by omega) rfl rfl rfl ?_ | refine aops_p tok rfl rfl rfl rfl ?_ | refine aops_ixa tok rfl rfl rfl (by decide) rfl rfl rfl rfl ?_ | refine aops_ld tok 0 rfl rfl rfl rfl rfl rfl rfl rfl ?_ | refine aops_ld tok 1 rfl rfl rfl rfl rfl rfl rfl rfl ?_ | refine aops_stn tok rfl rfl rfl rfl rfl rfl rfl rfl rfl ?_ | refine aops_stn1 tok rfl rfl rfl rfl rfl rfl rfl rfl rfl ?_ | refine acode_seq ?_ | refine acode_region ?_ | refine acode_block ?_ | refine acode_skip ?_ | refine then_n ?_ | refine block_n ?_)
    refine aops_call Try.func66 rfl rfl rfl rfl (joinN_calls hb hx hxl hfl hk2 [_] M) rfl rfl ?_
    rintro y M' ⟨rfl, rfl⟩
    have hc7 : ∀ c : Bool, A.bool (if c = true then true else m1) = A.bool (c || m1) := fun c => by cases c <;> rfl
    cases e2 with
    | false =>
      have hJ : followJ s.toNat r.left.toNat f false (O1, m1) = (O1.set s.toNat (orL x f), cameL x f || m1) := by unfold followJ; rw [if_neg (by simp), hj1]
      rw [hJ] at hfold hgw
      have hok := hgw.1
      cases hcm : cameL x f with
      | true =>
        rw [hcm] at hfold
        repeat' (first | refine aops_put rfl ?_ | refine aops_end ?_ | refine aops_endb ?_ | refine aops_o rfl rfl rfl ?_ | refine aops_max tok rfl rfl rfl rfl rfl rfl ?_ | refine aops_min tok rfl rfl rfl rfl rfl rfl ?_ | refine aops_a tok rfl (by omega) (by omega) rfl rfl rfl ?_ | (refine aops_pd tok rfl rfl rfl rfl ?_ ?_ <;> intro e_) | (refine aops_pe tok rfl rfl rfl rfl ?_ ?_ <;> intro e_) | (refine aops_pn tok rfl rfl rfl rfl ?_ ?_ <;> intro e_) | refine aops_p tok rfl rfl rfl rfl ?_ | refine acode_it rfl ?_ | refine acode_if rfl ?_ | refine aops_ixa tok rfl rfl rfl (by decide) rfl rfl rfl rfl ?_ | refine aops_ld tok 0 rfl rfl rfl rfl rfl rfl rfl rfl ?_ | refine aops_ld tok 1 rfl rfl rfl rfl rfl rfl rfl rfl ?_ | refine aops_stn tok rfl rfl rfl rfl rfl rfl rfl rfl rfl ?_ | refine aops_stn1 tok rfl rfl rfl rfl rfl rfl rfl rfl rfl ?_ | refine acode_seq ?_ | refine acode_region ?_ | refine acode_block ?_ | refine acode_skip ?_ | refine then_n ?_ | refine block_n ?_)
        exact ⟨(i + 1, O1.set s.toNat (orL x f), true), ⟨by simp; omega, hok, hfold⟩, by simp; omega, ⟨rfl, rfl, rfl, rfl, rfl, rfl, rfl, trivial⟩, rfl⟩
      | false =>
        rw [hcm] at hfold
        repeat' (first | refine aops_put rfl ?_ | refine aops_end ?_ | refine aops_endb ?_ | refine aops_o rfl rfl rfl ?_ | refine aops_max tok rfl rfl rfl rfl rfl rfl ?_ | refine aops_min tok rfl rfl rfl rfl rfl rfl ?_ | refine aops_a tok rfl (by omega) (by omega) rfl rfl rfl ?_ | (refine aops_pd tok rfl rfl rfl rfl ?_ ?_ <;> intro e_) | (refine aops_pe tok rfl rfl rfl rfl ?_ ?_ <;> intro e_) | (refine aops_pn tok rfl rfl rfl rfl ?_ ?_ <;> intro e_) | refine aops_p tok rfl rfl rfl rfl ?_ | refine acode_it rfl ?_ | refine acode_if rfl ?_ | refine aops_ixa tok rfl rfl rfl (by decide) rfl rfl rfl rfl ?_ | refine aops_ld tok 0 rfl rfl rfl rfl rfl rfl rfl rfl ?_ | refine aops_ld tok 1 rfl rfl rfl rfl rfl rfl rfl rfl ?_ | refine aops_stn tok rfl rfl rfl rfl rfl rfl rfl rfl rfl ?_ | refine aops_stn1 tok rfl rfl rfl rfl rfl rfl rfl rfl rfl ?_ | refine acode_seq ?_ | refine acode_region ?_ | refine acode_block ?_ | refine acode_skip ?_ | refine then_n ?_ | refine block_n ?_)
        exact ⟨(i + 1, O1.set s.toNat (orL x f), m1), ⟨by simp; omega, hok, hfold⟩, by simp; omega, ⟨rfl, rfl, rfl, rfl, rfl, rfl, rfl, trivial⟩, rfl⟩
    | true =>
      have hs1 : s.toNat < O1.length := by rw [hO1.1]; omega
      have hx2 : (O1.set s.toNat (orL x f))[s.toNat]? = some (orL x f) := List.getElem?_set_self hs1
      have hx2d : (O1.set s.toNat (orL x f)).getD s.toNat [] = orL x f := by rw [List.getD_eq_getElem?_getD, hx2]; rfl
      have hxl2 : (orL x f).length = k + 1 := by rw [orL_len, hxl]
      have hO2 : FOk n k (O1.set s.toNat (orL x f)) := by
        have := (joinS_gw (n := n) (k := k) f (O1, m1) (s := s.toNat) (by omega) hO1).1
        rw [hj1] at this; exact this
      obtain ⟨L, hL⟩ : ∃ L, (O1.set s.toNat (orL x f))[r.left.toNat]? = some L := ⟨(O1.set s.toNat (orL x f))[r.left.toNat]'(by rw [hO2.1]; omega), List.getElem?_eq_getElem (by rw [hO2.1]; omega)⟩
      have hLd : (O1.set s.toNat (orL x f)).getD r.left.toNat [] = L := by rw [List.getD_eq_getElem?_getD, hL]; rfl
      have hLl := hO2.2 L (List.mem_of_getElem? hL)
      have hJ : followJ s.toNat r.left.toNat f true (O1, m1) = ((O1.set s.toNat (orL x f)).set s.toNat (orL (orL x f) L), cameL (orL x f) L || (cameL x f || m1)) := by
        unfold followJ; rw [if_pos rfl, hj1]; simp only [hLd]; unfold joinS; simp only [hx2d]
      rw [hJ] at hfold hgw
      have hok := hgw.1
      obtain ⟨c, hc⟩ : ∃ c, bs[r.left.toNat]? = some c := ⟨bs[r.left.toNat]'(by omega), List.getElem?_eq_getElem (by omega)⟩
      have hcall : ACalls Try.prog 66 [.own (some b) (k + 1) (k + 1), .own (some c) (k + 1) (k + 1)] ([⟨some fb, cap * 1, ownsA k bs⟩] ++ (obsZ k bs (O1.set s.toNat (orL x f)) ++ M)) (fun r M' => r = .bool (cameL (orL x f) L) ∧ M' = [⟨some fb, cap * 1, ownsA k bs⟩] ++ (obsZ k bs ((O1.set s.toNat (orL x f)).set s.toNat (orL (orL x f) L)) ++ M)) := by
        by_cases hsl : r.left.toNat = s.toNat
        · rw [hsl, hx2] at hL
          obtain rfl := Option.some.inj hL
          rw [hsl, hb] at hc
          obtain rfl := Option.some.inj hc
          obtain ⟨q1, q2⟩ := orL_self (orL x f)
          rw [q1, q2, set_at hx2]
          exact joinSelfN_calls hb hx2 hxl2 hk2 _ M
        · exact joinV_calls hsl hb hx2 hc hL hxl2 hLl hk2 _ M
      generalize cameL x f = c1 at *
      generalize orL (orL x f) L = z at *
      generalize cameL (orL x f) L = c2 at *
      cases c1 <;> (
        repeat' (first | refine aops_put rfl ?_ | refine aops_end ?_ | refine aops_endb ?_ | refine aops_o rfl rfl rfl ?_ | refine aops_max tok rfl rfl rfl rfl rfl rfl ?_ | refine aops_min tok rfl rfl rfl rfl rfl rfl ?_ | refine aops_a tok rfl (by omega) (by omega) rfl rfl rfl ?_ | (refine aops_pd tok rfl rfl rfl rfl ?_ ?_ <;> intro e_) | (refine aops_pe tok rfl rfl rfl rfl ?_ ?_ <;> intro e_) | (refine aops_pn tok rfl rfl rfl rfl ?_ ?_ <;> intro e_) | refine aops_p tok rfl rfl rfl rfl ?_ | refine acode_it rfl ?_ | refine acode_if rfl ?_ | refine aops_ixa tok rfl rfl rfl (by decide) rfl rfl rfl rfl ?_ | refine aops_ld tok 0 rfl rfl rfl rfl rfl rfl rfl rfl ?_ | refine aops_ld tok 1 rfl rfl rfl rfl rfl rfl rfl rfl ?_ | refine aops_stn tok rfl rfl rfl rfl rfl rfl rfl rfl rfl ?_ | refine aops_stn1 tok rfl rfl rfl rfl rfl rfl rfl rfl rfl ?_ | refine acode_seq ?_ | refine acode_region ?_ | refine acode_block ?_ | refine acode_skip ?_ | refine then_n ?_ | refine block_n ?_)
        refine acode_drawP [] 9 [0, 1, 2, 3, 4, 5, 6, 7, 8] [] mixed (by kernel_rfl) (by kernel_rfl) rfl ?_
        refine seqO_T rfl ?_
        repeat (first | refine seqT_put rfl ?_ | refine seqT_o rfl rfl rfl ?_ | refine seqT_max tok rfl rfl rfl rfl rfl rfl ?_ | refine seqT_min tok rfl rfl rfl rfl rfl rfl ?_ | refine seqT_a tok rfl (by omega) (by omega) rfl rfl rfl ?_ | refine seqT_p tok rfl rfl rfl rfl ?_ | refine seqT_ixa tok rfl rfl rfl (by decide) rfl rfl rfl rfl ?_ | refine seqT_ld tok 0 rfl rfl rfl rfl rfl rfl rfl rfl ?_ | refine seqT_ld tok 1 rfl rfl rfl rfl rfl rfl rfl rfl ?_)
        refine seqT_ixo tok rfl rfl rfl rfl n0 (by omega) rfl rfl rfl ?_
        refine seqT_ld tok 0 (y := .own (some b) (k + 1) (k + 1)) rfl rfl rfl rfl (by rw [headed_eq]; exact ownsA_get hb) rfl rfl rfl ?_
        repeat (first | refine seqT_put rfl ?_ | refine seqT_o rfl rfl rfl ?_ | refine seqT_max tok rfl rfl rfl rfl rfl rfl ?_ | refine seqT_min tok rfl rfl rfl rfl rfl rfl ?_ | refine seqT_a tok rfl (by omega) (by omega) rfl rfl rfl ?_ | refine seqT_p tok rfl rfl rfl rfl ?_ | refine seqT_ixa tok rfl rfl rfl (by decide) rfl rfl rfl rfl ?_ | refine seqT_ld tok 0 rfl rfl rfl rfl rfl rfl rfl rfl ?_ | refine seqT_ld tok 1 rfl rfl rfl rfl rfl rfl rfl rfl ?_)
        refine seqT_ixo tok rfl rfl rfl rfl l0 (by omega) rfl rfl rfl ?_
        refine seqT_ld tok 0 (y := .own (some c) (k + 1) (k + 1)) rfl rfl rfl rfl (by rw [headed_eq]; exact ownsA_get hc) rfl rfl rfl ?_
        refine SeqT.done ?_
        refine aops_call Try.func66 rfl rfl rfl rfl hcall rfl rfl ?_
        rintro y M' ⟨rfl, rfl⟩
        cases c2 <;> (
          repeat' (first | refine aops_put rfl ?_ | refine aops_end ?_ | refine aops_endb ?_ | refine aops_o rfl rfl rfl ?_ | refine aops_max tok rfl rfl rfl rfl rfl rfl ?_ | refine aops_min tok rfl rfl rfl rfl rfl rfl ?_ | refine aops_a tok rfl (by omega) (by omega) rfl rfl rfl ?_ | (refine aops_pd tok rfl rfl rfl rfl ?_ ?_ <;> intro e_) | (refine aops_pe tok rfl rfl rfl rfl ?_ ?_ <;> intro e_) | (refine aops_pn tok rfl rfl rfl rfl ?_ ?_ <;> intro e_) | refine aops_p tok rfl rfl rfl rfl ?_ | refine acode_it rfl ?_ | refine acode_if rfl ?_ | refine aops_ixa tok rfl rfl rfl (by decide) rfl rfl rfl rfl ?_ | refine aops_ld tok 0 rfl rfl rfl rfl rfl rfl rfl rfl ?_ | refine aops_ld tok 1 rfl rfl rfl rfl rfl rfl rfl rfl ?_ | refine aops_stn tok rfl rfl rfl rfl rfl rfl rfl rfl rfl ?_ | refine aops_stn1 tok rfl rfl rfl rfl rfl rfl rfl rfl rfl ?_ | refine acode_seq ?_ | refine acode_region ?_ | refine acode_block ?_ | refine acode_skip ?_ | refine then_n ?_ | refine block_n ?_)
          exact ⟨(i + 1, (O1.set s.toNat (orL x f)).set s.toNat z, _), ⟨by simp; omega, hok, hfold⟩, by simp; omega, ⟨rfl, rfl, rfl, rfl, rfl, rfl, rfl, trivial⟩, rfl⟩))
  · have hge : i = r.right.length := by omega
    subst hge
    rw [List.drop_of_length_le (by simp)] at hfold
    simp only [List.foldl_nil] at hfold
    rw [← hfold]
    refine acode_exit ?_
    repeat (first | refine exit_then ?_ | refine exit_here ?_ | refine exit_out rfl ?_ | refine ret_then ?_ | refine ret_block ?_ | refine then_n ?_ | refine block_n ?_)
    repeat (first | refine aops_put rfl ?_ | refine aops_end ?_ | refine aops_endb ?_ | refine aops_o rfl rfl rfl ?_ | refine aops_max tok rfl rfl rfl rfl rfl rfl ?_ | refine aops_min tok rfl rfl rfl rfl rfl rfl ?_ | refine aops_a tok rfl (by omega) (by omega) rfl rfl rfl ?_ | refine aops_p tok rfl rfl rfl rfl ?_ | refine aops_ixa tok rfl rfl rfl (by decide) rfl rfl rfl rfl ?_ | refine aops_ld tok 0 rfl rfl rfl rfl rfl rfl rfl rfl ?_ | refine aops_ld tok 1 rfl rfl rfl rfl rfl rfl rfl rfl ?_ | refine aops_stn tok rfl rfl rfl rfl rfl rfl rfl rfl rfl ?_ | refine aops_stn1 tok rfl rfl rfl rfl rfl rfl rfl rfl rfl ?_ | refine acode_seq ?_ | refine acode_region ?_ | refine acode_block ?_ | refine acode_skip ?_ | refine then_n ?_ | refine block_n ?_)
    refine acode_ret ?_
    repeat (first | refine exit_then ?_ | refine exit_here ?_ | refine exit_out rfl ?_ | refine ret_then ?_ | refine ret_block ?_ | refine then_n ?_ | refine block_n ?_)
    exact ⟨_, ⟨rfl, rfl⟩, resOf_tmp rfl⟩
end Go.Proofs.Ytnellmjnlnnckaa.Ab

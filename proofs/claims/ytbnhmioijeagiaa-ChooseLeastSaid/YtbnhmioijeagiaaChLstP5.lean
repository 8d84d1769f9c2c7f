/- Texts of this proof, one behind the other (Cht7, Cht8, Cht9, Pre1, Pre2, Pre3, Pre4, Pre5, Bld1, Bld2, LsA, Bfo1, Bfo2, Bfo3, Bfo4, Bfo5, LsB). No condition. -/
import Derived.Test.YtbnhmioijeagiaaChLstP4
/- Chapter 18's reference, the ways of a row of symbols: the walk. No condition. -/
set_option linter.unusedVariables false
set_option linter.unusedSimpArgs false
namespace Go.Proofs.Ytbnhmioijeagiaa.Ab
attribute [local irreducible] thenA inBlockA ACode AOps put IntKind.wrap

theorem ints_drop {l : List Int} {j : Int} {i : Nat} (hj : j.toNat = i) : ((ints l).drop (j.toNat * 1)).take ((l.drop i).length * 1) = ints (l.drop i) := by
  rw [Nat.mul_one, Nat.mul_one, hj, List.take_of_length_le (by simp [ints])]
  simp [ints, List.map_drop]
def wyC (r : Int) (w : List Ky) : List A := [.int .i64 r, .psl w.length (encs f3C w)]
theorem wyC_len (r : Int) (w : List Ky) : (wyC r w).length = 2 := rfl
def kyOf (s : Int) (fr j : Nat) : Ky := (if s < 0 then -1 else s, fr, j)
def waysS (ks : List Int) (n : Nat) (F : List (List Bool)) (R : Nat → Nat → List (List Ky)) (s : Int) (l : List Int) (fr to m : Nat) (out : List (List Ky)) (j : Nat) : List (List Ky) :=
  if fr ≤ j ∧ out.length ≤ m ∧ link ks n F s fr j = true ∧ (rowF ks n F l j).getD to false = true then out ++ (R j (m - out.length)).map (kyOf s fr j :: ·) else out
def waysF (ks : List Int) (n : Nat) (F : List (List Bool)) : List Int → Nat → Nat → Nat → List (List Ky)
  | [], fr, to, m => if fr = to then [[]] else []
  | s :: l, fr, to, m => (List.range (to + 1)).foldl (waysS ks n F (fun j m' => waysF ks n F l j to m') s l fr to m) []
theorem waysS_len {ks : List Int} {n : Nat} {F : List (List Bool)} {R : Nat → Nat → List (List Ky)} {s : Int} {l : List Int} {fr to m : Nat} (hR : ∀ j m', (R j m').length ≤ m' + 1) {out : List (List Ky)} (h : out.length ≤ m + 1) (j : Nat) : (waysS ks n F R s l fr to m out j).length ≤ m + 1 := by
  unfold waysS
  split
  · rename_i hc
    have := hR j (m - out.length)
    rw [List.length_append, List.length_map]
    have := hc.2.1
    omega
  · exact h
theorem waysL_len {ks : List Int} {n : Nat} {F : List (List Bool)} {R : Nat → Nat → List (List Ky)} {s : Int} {l : List Int} {fr to m : Nat} (hR : ∀ j m', (R j m').length ≤ m' + 1) : ∀ (L : List Nat) {out : List (List Ky)}, out.length ≤ m + 1 → (L.foldl (waysS ks n F R s l fr to m) out).length ≤ m + 1
  | [], _, h => h
  | j :: L, _, h => waysL_len hR L (waysS_len hR h j)
theorem waysF_len {ks : List Int} {n : Nat} {F : List (List Bool)} : ∀ (l : List Int) (fr to m : Nat), (waysF ks n F l fr to m).length ≤ m + 1
  | [], fr, to, m => by unfold waysF; split <;> simp
  | s :: l, fr, to, m => by
    unfold waysF
    exact waysL_len (fun j m' => waysF_len l j to m') _ (by simp)
theorem waysL_wid {ks : List Int} {n : Nat} {F : List (List Bool)} {R : Nat → Nat → List (List Ky)} {s : Int} {l : List Int} {fr to m : Nat} {q : Nat} (hR : ∀ j m', ∀ w ∈ R j m', w.length = q) : ∀ (L : List Nat) {out : List (List Ky)}, (∀ w ∈ out, w.length = q + 1) → ∀ w ∈ L.foldl (waysS ks n F R s l fr to m) out, w.length = q + 1
  | [], _, h => h
  | j :: L, out, h => waysL_wid hR L (by
    intro w hw
    unfold waysS at hw
    split at hw
    · rcases List.mem_append.1 hw with h1 | h1
      · exact h w h1
      · obtain ⟨v, hv, rfl⟩ := List.mem_map.1 h1
        simp [hR _ _ v hv]
    · exact h w hw)
theorem waysF_wid {ks : List Int} {n : Nat} {F : List (List Bool)} : ∀ (l : List Int) (fr to m : Nat), ∀ w ∈ waysF ks n F l fr to m, w.length = l.length
  | [], fr, to, m, w, hw => by unfold waysF at hw; split at hw <;> simp_all
  | s :: l, fr, to, m, w, hw => by
    unfold waysF at hw
    exact waysL_wid (q := l.length) (fun j m' => waysF_wid l j to m') _ (by simp) w hw
theorem waysL_full {ks : List Int} {n : Nat} {F : List (List Bool)} {R : Nat → Nat → List (List Ky)} {s : Int} {l : List Int} {fr to m : Nat} {out : List (List Ky)} (h : ¬ out.length ≤ m) : ∀ (L : List Nat), L.foldl (waysS ks n F R s l fr to m) out = out
  | [] => rfl
  | j :: L => by rw [List.foldl_cons, show waysS ks n F R s l fr to m out j = out by unfold waysS; rw [if_neg (fun hc => h hc.2.1)]]; exact waysL_full h L
theorem waysL_from {ks : List Int} {n : Nat} {F : List (List Bool)} {R : Nat → Nat → List (List Ky)} {s : Int} {l : List Int} {fr to m : Nat} : ∀ i, i ≤ fr → ((List.range (to + 1)).drop i).foldl (waysS ks n F R s l fr to m) [] = (List.range (to + 1)).foldl (waysS ks n F R s l fr to m) []
  | 0, _ => rfl
  | i + 1, hi => by
    rw [← waysL_from i (by omega)]
    by_cases h : i < to + 1
    · rw [range_drop h, List.foldl_cons, show waysS ks n F R s l fr to m [] i = [] by unfold waysS; rw [if_neg (fun hc => by omega)]]
    · rw [List.drop_of_length_le (by simp; omega), List.drop_of_length_le (by simp; omega)]

set_option maxHeartbeats 32000000 in
theorem ways_calls {g : Gr} {ks : List Int} {N n : Nat} {F : List (List Bool)} {r : Int} (hN : g.names = N) (hks : ks.length = n) (hn : n ≤ 2000) (hk : g.kinds ≤ 1000) (hF : FOk (N * (n + 1)) n F) : ∀ (l : List Int) (fr to m : Nat), l.length ≤ 1000 → (∀ s ∈ l, isSym g s) → fr ≤ n → to ≤ n → m ≤ 1000000 → ∀ (M : List Ob),
    ACalls Try.prog 37 [.pp (chC g ks N n F), .int .i64 r, .psl l.length (ints l), .int .i64 fr, .int .i64 to, .int .i64 m] M (fun x M' => x = .psl (waysF ks n F l fr to m).length (encs (wyC r) (waysF ks n F l fr to m)) ∧ M' = M) := by
  intro l
  induction l with
  | nil =>
    intro fr to m _ _ hfr hto hm M
    refine acalls_of_code 120 Try.func37 rfl rfl rfl ?_
    by_cases hft : fr = to
    · repeat' (first | refine aops_end ?_ | refine aops_pbt tok rfl (by first | omega | decide) rfl rfl rfl ?_ | refine aops_p tok rfl rfl rfl rfl ?_ | refine acode_it rfl ?_ | refine acode_seq ?_ | refine acode_region ?_)
      refine aops_litn tok rfl rfl rfl rfl rfl rfl rfl ?_
      repeat (refine aops_p tok rfl rfl rfl rfl ?_)
      refine aops_end ?_
      refine acode_freezeV (V := []) [(12, .psl 1 [.int .i64 r, .psl 0 []])] ⟨.psl (.cons (.refl _) (.cons .nils .nil)), trivial⟩ ?_
      refine acode_ret ?_
      repeat (refine ret_then ?_)
      exact ⟨_, ⟨rfl, rfl⟩, resOf_tmp (by unfold waysF; rw [if_pos hft]; rfl)⟩
    · repeat' (first | refine aops_end ?_ | refine aops_pbt tok rfl (by first | omega | decide) rfl rfl rfl ?_ | refine aops_pbf tok rfl (by first | omega | decide) rfl rfl rfl ?_ | refine aops_p tok rfl rfl rfl rfl ?_ | refine acode_it rfl ?_ | refine acode_if rfl ?_ | refine acode_seq ?_ | refine acode_region ?_ | refine acode_skip ?_ | refine then_n ?_)
      refine acode_freezeV (V := []) [(12, .psl 0 [])] ⟨.nils, trivial⟩ ?_
      refine acode_ret ?_
      repeat (refine ret_then ?_)
      exact ⟨_, ⟨rfl, rfl⟩, resOf_tmp (by unfold waysF; rw [if_neg hft]; rfl)⟩
  | cons s l ih =>
    intro fr to m hl hsy hfr hto2 hm M
    have hss := hsy s (by simp)
    have hsl : ∀ s ∈ l, isSym g s := fun t ht => hsy t (by simp [ht])
    have hlen : (s :: l).length = l.length + 1 := rfl
    have hfl := waysF_len (ks := ks) (n := n) (F := F) (s :: l) fr to m
    have hRl : ∀ j m', (waysF ks n F l j to m').length ≤ m' + 1 := fun j m' => waysF_len l j to m'
    have hfin : waysF ks n F (s :: l) fr to m = (List.range (to + 1)).foldl (waysS ks n F (fun j m' => waysF ks n F l j to m') s l fr to m) [] := by rw [waysF]
    rw [← waysL_from fr (Nat.le_refl _)] at hfin
    generalize waysF ks n F (s :: l) fr to m = fin at *
    have hs0t : (s :: l)[(0 : Int).toNat]? = some s := rfl
    refine acalls_of_code 120 Try.func37 rfl rfl rfl ?_
    repeat' (first | refine aops_end ?_ | refine aops_pbf tok rfl (by first | omega | decide) rfl rfl rfl ?_ | refine aops_p tok rfl rfl rfl rfl ?_ | refine acode_if rfl ?_ | refine acode_seq ?_ | refine acode_region ?_ | refine acode_block ?_ | refine acode_skip ?_ | refine then_n ?_)
    refine acode_adopt 13 2 rfl ?_
    refine acode_loopS (ι := Nat × List (List Ky) × Option Nat × Nat) (fun p => [(0, .pp (chC g ks N n F)), (1, .int .i64 r), (2, .psl (s :: l).length (ints (s :: l))), (3, .int .i64 fr), (4, .int .i64 to), (5, .int .i64 m), (13, .own p.2.2.1 p.2.1.length p.2.2.2), (14, .int .i64 p.1)]) (fun p => ⟨p.2.2.1, p.2.2.2 * 2, encs (wyC r) p.2.1⟩ :: M) (fun p => to + 1 - p.1) (fun p => fr ≤ p.1 ∧ p.2.1.length ≤ m + 1 ∧ ((List.range (to + 1)).drop p.1).foldl (waysS ks n F (fun j m' => waysF ks n F l j to m') s l fr to m) p.2.1 = fin) (fr, [], none, 0) ⟨Nat.le_refl _, by simp, hfin.symm⟩ ⟨rfl, rfl, rfl, rfl, rfl, rfl, rfl, rfl, trivial⟩ rfl ?_
    clear hfin
    rintro ⟨j, out, ob, cap⟩ ⟨hj, hol, hfin⟩
    simp only at hj hol hfin ⊢
    by_cases hjt : j ≤ to
    · by_cases hom : out.length ≤ m
      · have hjd := range_drop (n := to + 1) (i := j) (by omega)
        rw [hjd, List.foldl_cons] at hfin
        have hnx : ∀ out', waysS ks n F (fun j m' => waysF ks n F l j to m') s l fr to m out j = out' → out'.length ≤ m + 1 ∧ ((List.range (to + 1)).drop (j + 1)).foldl (waysS ks n F (fun j m' => waysF ks n F l j to m') s l fr to m) out' = fin := fun out' h => by
          refine ⟨?_, by rw [← h]; exact hfin⟩
          rw [← h]; exact waysS_len hRl hol j
        clear hfin hjd
        have hlk : link ks n F s fr j = if s < 0 then decide (j = fr + 1) && (decide (fr < n) && decide (ks.getD fr 0 = -1 - s)) else decide (fr ≤ j) && chAt n F s.toNat fr j := rfl
        have hkn : fr < n → ks[fr]? = some (ks.getD fr 0) := fun h => intD_at (l := ks) (i := fr) (by omega)
        generalize hlkv : link ks n F s fr j = ok at *
        repeat' (first | refine aops_end ?_ | refine aops_pbt tok rfl (by first | omega | decide) rfl rfl rfl ?_ | refine aops_p tok rfl rfl rfl rfl ?_ | refine acode_it rfl ?_ | refine acode_seq ?_ | refine acode_region ?_ | refine acode_block ?_ | refine acode_skip ?_ | refine then_n ?_)
        refine aops_ix tok [A.int .i64 s] rfl rfl rfl rfl (by omega) (by omega) (by simp) (ints_at hs0t) rfl rfl rfl ?_
        repeat (refine aops_p tok rfl rfl rfl rfl ?_)
        refine aops_alloc tok rfl rfl rfl rfl rfl rfl fun kb => ?_
        repeat (refine aops_stn tok rfl rfl rfl rfl rfl rfl rfl rfl rfl ?_)
        refine aops_end ?_
        refine acode_seq ?_
        refine acode_region ?_
        repeat (refine aops_p tok rfl rfl rfl rfl ?_)
        refine aops_end ?_
        refine acode_seq ?_
        refine acode_join [(0, .pp (chC g ks N n F)), (1, .int .i64 r), (2, .psl (s :: l).length (ints (s :: l))), (3, .int .i64 fr), (4, .int .i64 to), (5, .int .i64 m), (13, .own ob out.length cap), (14, .int .i64 j), (15, .pp (f3C (kyOf s fr j))), (16, .bool ok)] (⟨ob, cap * 2, encs (wyC r) out⟩ :: M) ?_ ?_
        · by_cases hs0 : s < 0
          · rw [if_pos hs0] at hlk
            have hsk : isKind g s := hss.resolve_right (fun h1 => by unfold isName at h1; omega)
            obtain ⟨k0, k1⟩ := id hsk
            generalize ks.getD fr 0 = kv at *
            have hky : kyOf s fr j = (-1, (fr : Int), (j : Int)) := by unfold kyOf; rw [if_pos hs0]
            rw [hky]
            repeat' (first | refine aops_p tok rfl rfl rfl rfl ?_ | refine acode_seq ?_ | refine acode_region ?_)
            refine aops_ix tok [A.int .i64 s] rfl rfl rfl rfl (by omega) (by omega) (by simp) (ints_at hs0t) rfl rfl rfl ?_
            repeat' (first | refine aops_end ?_ | refine aops_pbt tok rfl (by first | omega | decide) rfl rfl rfl ?_ | refine aops_p tok rfl rfl rfl rfl ?_ | refine acode_it rfl ?_ | refine acode_seq ?_)
            refine acode_drawT 18 mixed (by kernel_rfl) (by kernel_rfl) ?_
            repeat' (first | refine seqT_o rfl rfl rfl ?_ | refine seqT_a tok rfl (by omega) (by omega) rfl rfl rfl ?_ | (refine seqT_pd tok rfl rfl rfl rfl ?_ ?_ <;> intro e_) | refine seqT_p tok rfl rfl rfl rfl ?_)
            · have hfn : fr < n := by omega
              refine seqT_ix tok [A.int .i64 kv] rfl rfl rfl rfl (by omega) (by omega) (by simp) (ints_at (j := fr) (by simpa using hkn hfn)) rfl rfl rfl ?_
              repeat (refine seqT_p tok rfl rfl rfl rfl ?_)
              refine seqT_ix tok [A.int .i64 s] rfl rfl rfl rfl (by omega) (by omega) (by simp) (ints_at hs0t) rfl rfl rfl ?_
              repeat' (first | refine seqT_a tok rfl (by omega) (by omega) rfl rfl rfl ?_ | (refine seqT_pd tok rfl rfl rfl rfl ?_ ?_ <;> intro e_) | refine seqT_p tok rfl rfl rfl rfl ?_)
              all_goals
                refine SeqT.done ?_
                repeat (refine aops_p tok rfl rfl rfl rfl ?_)
                refine aops_end ?_
                refine acode_region ?_
                repeat (first | refine aops_p tok rfl rfl rfl rfl ?_ | refine aops_stn tok rfl rfl rfl rfl rfl rfl rfl rfl rfl ?_)
                refine aops_pubref0 15 rfl ?_
                refine aops_end ?_
                refine ⟨⟨rfl, rfl, rfl, rfl, rfl, rfl, rfl, rfl, rfl, ?_, trivial⟩, rfl⟩
                rw [hlk]
                first
                  | (rw [decide_eq_true (show j = fr + 1 by omega), decide_eq_true hfn, decide_eq_true (show kv = -1 - s by omega)]; rfl)
                  | (rw [decide_eq_false (show ¬ kv = -1 - s by omega), Bool.and_false, Bool.and_false]; rfl)
            · refine SeqT.done ?_
              repeat (refine aops_p tok rfl rfl rfl rfl ?_)
              refine aops_end ?_
              refine acode_region ?_
              repeat (first | refine aops_p tok rfl rfl rfl rfl ?_ | refine aops_stn tok rfl rfl rfl rfl rfl rfl rfl rfl rfl ?_)
              refine aops_pubref0 15 rfl ?_
              refine aops_end ?_
              refine ⟨⟨rfl, rfl, rfl, rfl, rfl, rfl, rfl, rfl, rfl, ?_, trivial⟩, rfl⟩
              rw [hlk, decide_eq_false (show ¬ j = fr + 1 by omega)]; rfl
          · rw [if_neg hs0] at hlk
            have hname : isName g s := hss.resolve_left (fun h1 => by unfold isKind at h1; omega)
            obtain ⟨n0, n1⟩ := id hname
            have hky : kyOf s fr j = (s, (fr : Int), (j : Int)) := by unfold kyOf; rw [if_neg hs0]
            rw [hky]
            have hhas : hasF N n F s fr j = ok := by
              rw [hlk]; unfold hasF
              rw [decide_eq_true (by omega), decide_eq_true hj]; rfl
            repeat' (first | refine aops_p tok rfl rfl rfl rfl ?_ | refine acode_seq ?_ | refine acode_region ?_)
            refine aops_ix tok [A.int .i64 s] rfl rfl rfl rfl (by omega) (by omega) (by simp) (ints_at hs0t) rfl rfl rfl ?_
            repeat' (first | refine aops_end ?_ | refine aops_pbf tok rfl (by first | omega | decide) rfl rfl rfl ?_ | refine aops_p tok rfl rfl rfl rfl ?_ | refine acode_if rfl ?_ | refine acode_region ?_)
            refine aops_ix tok [A.int .i64 s] rfl rfl rfl rfl (by omega) (by omega) (by simp) (ints_at hs0t) rfl rfl rfl ?_
            repeat (refine aops_p tok rfl rfl rfl rfl ?_)
            refine aops_callx Try.func34 rfl rfl rfl rfl (has_calls hN hks hn hF _) rfl rfl rfl ?_
            rw [hhas]
            repeat (refine aops_p tok rfl rfl rfl rfl ?_)
            refine aops_pubref0 15 rfl ?_
            refine aops_end ?_
            exact ⟨⟨rfl, rfl, rfl, rfl, rfl, rfl, rfl, rfl, rfl, rfl, trivial⟩, rfl⟩
        have hdl : ((s :: l).drop 1) = l := rfl
        have hrow := fun M' => row_calls (g := g) (ks := ks) (l := l) (N := N) (n := n) (fr := j) (F := F) hN hks hn hk hF (by omega) hsl (by omega) M'
        have hrowl : (rowF ks n F l j).length = n + 1 := rowF_len ks n F j l _ (tab_len _ _)
        have htoat := getD_at (l := rowF ks n F l j) (i := to) (by omega)
        generalize hvv : (rowF ks n F l j).getD to false = v at *
        generalize hto : rowF ks n F l j = tor at *
        have hst : waysS ks n F (fun j m' => waysF ks n F l j to m') s l fr to m out j = if ok = true ∧ v = true then out ++ (waysF ks n F l j to (m - out.length)).map (kyOf s fr j :: ·) else out := by
          unfold waysS
          rw [hlkv, hto, hvv]
          by_cases hc : ok = true ∧ v = true
          · rw [if_pos ⟨hj, hom, hc.1, hc.2⟩, if_pos hc]
          · rw [if_neg (fun h => hc ⟨h.2.2.1, h.2.2.2⟩), if_neg hc]
        cases ok with
        | false =>
          rw [if_neg (by simp)] at hst
          obtain ⟨h1, h2⟩ := hnx _ hst
          repeat' (first | refine aops_end ?_ | refine aops_o rfl rfl rfl ?_ | refine aops_p tok rfl rfl rfl rfl ?_ | refine acode_it rfl ?_ | refine acode_seq ?_ | refine acode_region ?_)
          refine acode_exit ?_
          repeat (first | refine exit_then ?_ | refine exit_here ?_ | refine then_n ?_)
          repeat (first | refine aops_end ?_ | refine aops_a tok rfl (by omega) (by omega) rfl rfl rfl ?_ | refine aops_p tok rfl rfl rfl rfl ?_ | refine acode_region ?_)
          exact ⟨(j + 1, out, ob, cap), ⟨by simp only; omega, h1, h2⟩, by simp only; omega, ⟨rfl, rfl, rfl, rfl, rfl, rfl, rfl, rfl, trivial⟩, rfl⟩
        | true =>
          repeat (first | refine aops_p tok rfl rfl rfl rfl ?_ | refine acode_seq ?_ | refine acode_region ?_)
          refine aops_slc tok l.length (ints l) rfl rfl rfl rfl rfl (by omega) (by omega) (by omega) (by rw [hlen]; simp) (by rw [ints_len]; exact (Nat.mul_one _).symm) (ints_drop (l := s :: l) (i := 1) rfl) rfl rfl rfl ?_
          repeat (refine aops_p tok rfl rfl rfl rfl ?_)
          refine aops_call Try.func71 rfl rfl rfl rfl (hrow _) rfl rfl ?_
          rintro y M2 ⟨b3, rfl, hM2⟩
          rw [hM2]
          repeat (first | refine aops_put rfl ?_ | refine aops_p tok rfl rfl rfl rfl ?_)
          refine aops_ixo tok rfl rfl rfl rfl (by omega) (by omega) rfl rfl rfl ?_
          refine aops_ld tok 0 (y := .bool v) rfl rfl rfl rfl (by rw [headed_eq]; exact bools_get (j := to) htoat) rfl rfl rfl ?_
          refine aops_drop0 ?_
          cases v with
          | false =>
            rw [if_neg (by simp)] at hst
            obtain ⟨h1, h2⟩ := hnx _ hst
            repeat' (first | refine aops_end ?_ | refine aops_p tok rfl rfl rfl rfl ?_ | refine acode_it rfl ?_)
            refine acode_exit ?_
            repeat (first | refine exit_then ?_ | refine exit_here ?_ | refine then_n ?_)
            repeat (first | refine aops_end ?_ | refine aops_a tok rfl (by omega) (by omega) rfl rfl rfl ?_ | refine aops_p tok rfl rfl rfl rfl ?_ | refine acode_region ?_)
            exact ⟨(j + 1, out, ob, cap), ⟨by simp only; omega, h1, h2⟩, by simp only; omega, ⟨rfl, rfl, rfl, rfl, rfl, rfl, rfl, rfl, trivial⟩, rfl⟩
          | true =>
            rw [if_pos ⟨rfl, rfl⟩] at hst
            obtain ⟨h1, h2⟩ := hnx _ hst
            have hih := ih j to (m - out.length) (by omega) hsl (by omega) hto2 (by omega)
            have hwid := waysF_wid (ks := ks) (n := n) (F := F) l j to (m - out.length)
            rw [List.length_append, List.length_map] at h1
            generalize waysF ks n F l j to (m - out.length) = rest at *
            have hcast : (m : Int) - out.length = ((m - out.length : Nat) : Int) := by omega
            repeat' (first | refine aops_end ?_ | refine aops_p tok rfl rfl rfl rfl ?_ | refine acode_if rfl ?_ | refine acode_seq ?_ | refine acode_region ?_ | refine acode_skip ?_ | refine then_n ?_)
            refine aops_slc tok l.length (ints l) rfl rfl rfl rfl rfl (by omega) (by omega) (by omega) (by rw [hlen]; simp) (by rw [ints_len]; exact (Nat.mul_one _).symm) (ints_drop (l := s :: l) (i := 1) rfl) rfl rfl rfl ?_
            repeat (first | refine aops_a tok rfl (by omega) (by omega) rfl rfl rfl ?_ | refine aops_p tok rfl rfl rfl rfl ?_)
            rw [hcast]
            refine aops_callx Try.func37 rfl rfl rfl rfl (hih _) rfl rfl rfl ?_
            repeat (first | refine aops_end ?_ | refine aops_p tok rfl rfl rfl rfl ?_ | refine acode_seq ?_ | refine acode_region ?_ | refine acode_block ?_)
            generalize hkyv : kyOf s fr j = ky at *
            refine acode_loopS (ι := Nat × Option Nat × Nat) (fun p => [(0, .pp (chC g ks N n F)), (1, .int .i64 r), (2, .psl (s :: l).length (ints (s :: l))), (3, .int .i64 fr), (4, .int .i64 to), (5, .int .i64 m), (13, .own p.2.1 (out.length + p.1) p.2.2), (14, .int .i64 j), (15, .pp (f3C ky)), (17, .psl rest.length (encs (wyC r) rest)), (18, .int .i64 p.1)]) (fun p => ⟨p.2.1, p.2.2 * 2, encs (wyC r) (out ++ (rest.take p.1).map (ky :: ·))⟩ :: M) (fun p => rest.length - p.1) (fun p => p.1 ≤ rest.length) (0, ob, cap) (Nat.zero_le _) ⟨rfl, rfl, rfl, rfl, rfl, rfl, rfl, rfl, rfl, rfl, rfl, trivial⟩ (by simp) ?_
            rintro ⟨i, ob, cap⟩ hi
            simp only at hi ⊢
            repeat (first | refine aops_end ?_ | refine aops_p tok rfl rfl rfl rfl ?_ | refine acode_seq ?_ | refine acode_region ?_)
            refine acode_id rfl (fun e => ?_) (fun e => ?_)
            · have hil : i < rest.length := by omega
              obtain ⟨w, hw⟩ : ∃ w, rest[i]? = some w := ⟨rest[i], List.getElem?_eq_getElem hil⟩
              have hwl := hwid w (List.mem_of_getElem? hw)
              have hln : (out ++ (rest.take i).map (ky :: ·)).length = out.length + i := by simp; omega
              have htk : out ++ (rest.take (i + 1)).map (ky :: ·) = (out ++ (rest.take i).map (ky :: ·)) ++ [ky :: w] := by rw [List.take_add_one, hw]; simp
              generalize out ++ (rest.take i).map (ky :: ·) = cur at *
              repeat (first | refine acode_seq ?_ | refine acode_block ?_ | refine acode_skip ?_ | refine then_n ?_)
              refine acode_drawP [] 13 [0, 1, 2, 4, 5, 6, 7, 8, 3, 9, 10, 11, 12] [8, 9, 12] mixed (by kernel_rfl) (by kernel_rfl) rfl ?_
              repeat (refine seqO_p tok rfl rfl rfl rfl rfl ?_)
              refine seqO_ix tok (wyC r w) rfl rfl rfl rfl rfl (by omega) (by omega) (by simp [wyC]) (encs_at (e := wyC r) (s := 2) (fun _ => rfl) (i := (i : Int).toNat) (by simpa using hw)) rfl rfl rfl ?_
              repeat (refine seqO_p tok rfl rfl rfl rfl rfl ?_)
              refine seqO_lito tok rfl rfl rfl rfl rfl (by simp) rfl rfl rfl fun lb => ?_
              refine seqO_appz tok 0 (m := w.length) rfl rfl rfl rfl rfl rfl rfl rfl (by rw [encs_len (e := f3C) (s := 3) (fun _ => rfl)]) (encs_cell (fun _ => rfl) _) rfl (by show _ * 24 ≤ _; omega) (by omega) (by simp) rfl rfl rfl ?_
              repeat (refine seqO_p tok rfl rfl rfl rfl rfl ?_)
              refine seqO_lit tok rfl rfl rfl rfl rfl rfl rfl rfl rfl ?_
              refine seqO_app tok 0 (m := 1) rfl rfl rfl rfl (.inl rfl) rfl rfl (by rw [encs_len (wyC_len r), hln]) rfl rfl rfl (by show _ * 32 ≤ _; omega) (by omega) (by simp) rfl rfl rfl fun ob' cap' => ?_
              refine SeqO.done ?_
              repeat (first | refine aops_end ?_ | refine aops_endb ?_ | refine aops_a tok rfl (by omega) (by omega) rfl rfl rfl ?_ | refine aops_p tok rfl rfl rfl rfl ?_ | refine acode_region ?_ | refine then_n ?_)
              exact ⟨(i + 1, ob', cap'), by simp only; omega, by simp only; omega, ⟨rfl, rfl, rfl, rfl, rfl, rfl, by show A.own _ _ _ = A.own _ _ _; rw [Nat.add_assoc], rfl, rfl, rfl, rfl, trivial⟩, by simp only [htk, encs_app]; rw [show encs (wyC r) [ky :: w] = [.int .i64 r, .psl (1 + w.length) (f3C ky ++ encs f3C w)] from by simp [encs, wyC, Nat.add_comm]]; rfl⟩
            · obtain rfl : i = rest.length := by omega
              rw [List.take_length]
              refine acode_exit ?_
              repeat (first | refine exit_then ?_ | refine exit_here ?_ | refine then_n ?_ | refine block_n ?_)
              repeat (first | refine aops_end ?_ | refine aops_a tok rfl (by omega) (by omega) rfl rfl rfl ?_ | refine aops_p tok rfl rfl rfl rfl ?_ | refine acode_region ?_)
              exact ⟨(j + 1, out ++ rest.map (ky :: ·), ob, cap), ⟨by simp only; omega, by simpa using h1, h2⟩, by simp only; omega, ⟨rfl, rfl, rfl, rfl, rfl, rfl, by simp only [List.length_append, List.length_map]; rfl, rfl, trivial⟩, rfl⟩
      · rw [waysL_full hom] at hfin
        repeat' (first | refine aops_end ?_ | refine aops_pbt tok rfl (by first | omega | decide) rfl rfl rfl ?_ | refine aops_pbf tok rfl (by first | omega | decide) rfl rfl rfl ?_ | refine aops_p tok rfl rfl rfl rfl ?_ | refine acode_if rfl ?_ | refine acode_seq ?_ | refine acode_region ?_)
        refine acode_exit ?_
        repeat (first | refine exit_then ?_ | refine exit_here ?_ | refine then_n ?_)
        repeat (first | refine aops_end ?_ | refine aops_p tok rfl rfl rfl rfl ?_ | refine acode_seq ?_ | refine acode_region ?_)
        refine acode_pub0 12 2 rfl rfl (encs_len (wyC_len r) out) rfl ?_
        refine acode_ret ?_
        skip
        exact ⟨_, ⟨rfl, rfl⟩, resOf_tmp (by rw [← hfin]; rfl)⟩
    · rw [List.drop_of_length_le (by simp; omega), List.foldl_nil] at hfin
      repeat' (first | refine aops_end ?_ | refine aops_o rfl rfl rfl ?_ | refine aops_pbf tok rfl (by first | omega | decide) rfl rfl rfl ?_ | refine aops_p tok rfl rfl rfl rfl ?_ | refine acode_if rfl ?_ | refine acode_seq ?_ | refine acode_region ?_)
      refine acode_exit ?_
      repeat (first | refine exit_then ?_ | refine exit_here ?_ | refine then_n ?_)
      repeat (first | refine aops_end ?_ | refine aops_p tok rfl rfl rfl rfl ?_ | refine acode_seq ?_ | refine acode_region ?_)
      refine acode_pub0 12 2 rfl rfl (encs_len (wyC_len r) out) rfl ?_
      refine acode_ret ?_
      skip
      exact ⟨_, ⟨rfl, rfl⟩, resOf_tmp (by rw [← hfin]; rfl)⟩
end Go.Proofs.Ytbnhmioijeagiaa.Ab
/- Chapter 18's reference, in their order: the walk. No condition. -/
set_option linter.unusedVariables false
set_option linter.unusedSimpArgs false
namespace Go.Proofs.Ytbnhmioijeagiaa.Ab
section
variable {P : Program} {T : List TI} {N : Nat} {ops : Array Oper} {rest : List Oper} {o : Oper} {Q : Exit → St → Prop} {E F : Env} {M : List Ob}
theorem seqO_slc (hT : TOk P T) {kp : List Ob} {al : List Nat} {q : Nat} {ll : List Oper} {m d : Nat} (n' : Nat) (cs' : List A) {t e : Nat} {ei : TI} {x : Operand} {lo hi' : Option Operand} {n : Nat} {cs : List A} {l h' : Int} (hq : al.contains q = false) (ho : o.op = .slice t x lo hi' none) (hs : sliceOf T t = some (e, ei)) (hx : opA F x = .psl n cs)
    (hl : loOf F lo = some l) (hh : hiOf F n hi' = some h') (h0 : 0 ≤ l) (h1 : l ≤ h') (h2 : h' ≤ n) (hn' : n' = h'.toNat - l.toNat) (hcs : cs.length = n * ei.size) (hcs' : (cs.drop (l.toNat * ei.size)).take (n' * ei.size) = cs')
    (hg : guardOn ops o F = some true) (hd : o.dst = some d) (hN : Nat.blt d N = true) (next : SeqO P N ops Q kp al (q + 1) ((d, .psl n' cs') :: F) M m ll) : SeqO P N ops Q kp al q F M (m + 1) (o :: ll) :=
  seqO_y hq (fun M' => yields_slice hT ho hs hx hl hh h0 h1 h2 n' cs' hn' hcs hcs' hg (by rw [hd]; exact hN)) hd next
/-- append to nil, one's own, in a drawn region. -/
theorem seqO_appn (hT : TOk P T) {kp : List Ob} {al : List Nat} {i : Nat} {ll : List Oper} {mm : Nat} {t e d : Nat} {ei : TI} {s x : Operand} {m : Nat} {ds : List A} (hi : al.contains i = true) (ho : o.op = .call { callee := .builtin .append, args := #[s, x], argTypes := #[t, t] }) (hs : sliceOf T t = some (e, ei))
    (hsv : opA F s = .nils) (hx : opA F x = .psl m ds) (hds : ds.length = m * ei.size) (hcell : ds.all A.isCell = true)
    (hz : (Nat.beq ei.zero.length ei.size && Nat.blt 0 ei.size) = true) (hbytes : m * ei.bytes ≤ 140737488355328) (hlen : m ≤ 140737488355328) (hkp : ∀ o ∈ kp, o ∈ M) (hg : guardOn ops o F = some true) (hd : o.dst = some d) (hN : Nat.blt d N = true)
    (next : ∀ ob' cap', SeqO P N ops Q kp al (i + 1) ((d, .own ob' m cap') :: F) (⟨ob', cap' * ei.size, ds⟩ :: M) mm ll) : SeqO P N ops Q kp al i F M (mm + 1) (o :: ll) := by
  refine SeqO.make (x := fun z => .own (obZ z) m (capZ z)) (M2 := fun z => ⟨obZ z, capZ z * ei.size, ds⟩ :: M) hi (fun E hE rest Q next => ?_) (fun z o ho => List.mem_cons_of_mem _ (hkp o ho)) fun z => ?_
  · have e1 : ∀ y ∈ o.op.operands, opA E y = opA F y := fun y hy => agree_op hE hy
    refine aops_appn hT ho hs ((e1 s (by rw [ho]; simp [Op.operands, Call.operands])).trans hsv) ((e1 x (by rw [ho]; simp [Op.operands, Call.operands])).trans hx) hds hcell hz hbytes hlen ((agree_guard hE).trans hg) hd hN fun ob' cap' => ?_
    obtain ⟨z, rfl, rfl⟩ := z_of ob' cap'
    have nx := next z
    rw [hd] at nx
    exact nx
  · rw [hd]; exact next _ _
end
attribute [local irreducible] thenA inBlockA ACode AOps put IntKind.wrap

theorem encs_takeL {α : Type} {e : α → List A} {s : Nat} (hs : ∀ x, (e x).length = s) (l : List α) (k : Nat) : (encs e l).take (k * s) = encs e (l.take k) := by
  induction l generalizing k with
  | nil => simp [encs]
  | cons x l ih =>
    cases k with
    | zero => simp [encs]
    | succ k =>
      have := ih k
      simp only [encs, List.flatMap_cons, List.take_succ_cons] at *
      rw [Nat.add_mul, Nat.one_mul, Nat.add_comm, List.take_append, List.take_of_length_le (by rw [hs]; omega), hs, Nat.add_sub_cancel_left, this]
def lowK : List Int → List Int → Bool
  | x :: xs, y :: ys => if x ≠ y then decide (x < y) else lowK xs ys
  | xs, ys => decide (xs.length < ys.length)
def lowF (a b : Al) : Bool := if a.rule ≠ b.rule then decide (a.rule < b.rule) else lowK a.kids b.kids
theorem lowK_nil (xs ys : List Int) (h : xs = [] ∨ ys = []) : lowK xs ys = decide (xs.length < ys.length) := by
  rcases h with rfl | rfl
  · unfold lowK; rfl
  · cases xs <;> rfl
set_option maxHeartbeats 8000000 in
theorem lower_calls {a b : Al} (ha : a.kids.length ≤ 9223372036854775807) (hb : b.kids.length ≤ 9223372036854775807) (M : List Ob) :
    ACalls Try.prog 73 [.agg (alC a), .agg (alC b)] M (fun r M' => r = .bool (lowF a b) ∧ M' = M) := by
  refine acalls_of_code 59 Try.func73 rfl rfl rfl ?_
  repeat (first | refine acode_seq ?_ | refine acode_region ?_)
  refine aops_boxf rfl rfl rfl rfl rfl rfl rfl ?_
  skip
  refine aops_boxf rfl rfl rfl rfl rfl rfl rfl ?_
  by_cases hr : a.rule = b.rule
  · have hF : lowF a b = lowK a.kids b.kids := by unfold lowF; rw [if_neg (by simpa using hr)]
    rw [hF]
    repeat' (first | refine aops_end ?_ | (refine aops_pd tok rfl rfl rfl rfl ?_ ?_ <;> intro e_) | (refine aops_pn tok rfl rfl rfl rfl ?_ ?_ <;> intro e_) | refine aops_p tok rfl rfl rfl rfl ?_ | refine acode_it rfl ?_ | refine acode_if rfl ?_ | refine acode_seq ?_ | refine acode_region ?_ | refine acode_block ?_ | refine acode_skip ?_ | refine then_n ?_)
    any_goals (exfalso; omega)
    refine acode_loopS (ι := Nat) (fun i => [(2, .pp (alC a)), (3, .pp (alC b)), (5, .int .i64 i)]) (fun _ => M) (fun i => a.kids.length - i) (fun i => i ≤ a.kids.length ∧ i ≤ b.kids.length ∧ lowK (a.kids.drop i) (b.kids.drop i) = lowK a.kids b.kids) 0 ⟨Nat.zero_le _, Nat.zero_le _, rfl⟩ ⟨rfl, rfl, rfl, trivial⟩ rfl ?_
    rintro i ⟨hia, hib, hl⟩
    by_cases h1 : i < a.kids.length
    · by_cases h2 : i < b.kids.length
      · obtain ⟨x, hx⟩ : ∃ x, a.kids[i]? = some x := ⟨a.kids[i], List.getElem?_eq_getElem h1⟩
        obtain ⟨y, hy⟩ : ∃ y, b.kids[i]? = some y := ⟨b.kids[i], List.getElem?_eq_getElem h2⟩
        have hda : a.kids.drop i = x :: a.kids.drop (i + 1) := by
          rw [List.drop_eq_getElem_cons h1]
          rw [List.getElem?_eq_getElem h1] at hx
          rw [Option.some.inj hx]
        have hdb : b.kids.drop i = y :: b.kids.drop (i + 1) := by
          rw [List.drop_eq_getElem_cons h2]
          rw [List.getElem?_eq_getElem h2] at hy
          rw [Option.some.inj hy]
        rw [hda, hdb, lowK] at hl
        repeat' (first | refine aops_end ?_ | refine aops_pbt tok rfl (by first | omega | decide) rfl rfl rfl ?_ | refine aops_p tok rfl rfl rfl rfl ?_ | refine acode_it rfl ?_ | refine acode_seq ?_ | refine acode_region ?_ | refine acode_block ?_ | refine acode_skip ?_ | refine then_n ?_)
        refine acode_drawT 11 mixed (by kernel_rfl) (by kernel_rfl) ?_
        repeat (refine seqT_p tok rfl rfl rfl rfl ?_)
        refine seqT_ix tok [A.int .i64 x] rfl rfl rfl rfl (by omega) (by omega) (by simp) (ints_at (j := i) (by simpa using hx)) rfl rfl rfl ?_
        repeat (refine seqT_p tok rfl rfl rfl rfl ?_)
        refine seqT_ix tok [A.int .i64 y] rfl rfl rfl rfl (by omega) (by omega) (by simp) (ints_at (j := i) (by simpa using hy)) rfl rfl rfl ?_
        repeat' (first | (refine seqT_pn tok rfl rfl rfl rfl ?_ ?_ <;> intro e_) | refine seqT_p tok rfl rfl rfl rfl ?_)
        · refine SeqT.done ?_
          rw [if_pos e_] at hl
          repeat' (first | refine aops_end ?_ | refine acode_it rfl ?_ | refine acode_seq ?_)
          refine acode_drawT 11 mixed (by kernel_rfl) (by kernel_rfl) ?_
          repeat (refine seqT_p tok rfl rfl rfl rfl ?_)
          refine seqT_ix tok [A.int .i64 x] rfl rfl rfl rfl (by omega) (by omega) (by simp) (ints_at (j := i) (by simpa using hx)) rfl rfl rfl ?_
          repeat (refine seqT_p tok rfl rfl rfl rfl ?_)
          refine seqT_ix tok [A.int .i64 y] rfl rfl rfl rfl (by omega) (by omega) (by simp) (ints_at (j := i) (by simpa using hy)) rfl rfl rfl ?_
          repeat (refine seqT_p tok rfl rfl rfl rfl ?_)
          refine SeqT.done ?_
          repeat (first | refine aops_end ?_ | refine aops_p tok rfl rfl rfl rfl ?_)
          refine acode_ret ?_
          repeat (first | refine ret_then ?_ | refine ret_block ?_)
          exact ⟨_, ⟨rfl, rfl⟩, resOf_tmp (by rw [← hl]; rfl)⟩
        · refine SeqT.done ?_
          rw [if_neg (by simpa using e_)] at hl
          repeat' (first | refine aops_end ?_ | refine aops_a tok rfl (by omega) (by omega) rfl rfl rfl ?_ | refine aops_p tok rfl rfl rfl rfl ?_ | refine acode_if rfl ?_ | refine acode_region ?_ | refine acode_skip ?_ | refine then_n ?_ | refine block_n ?_)
          exact ⟨i + 1, ⟨by omega, by omega, hl⟩, by omega, ⟨rfl, rfl, rfl, trivial⟩, rfl⟩
      · have hn := lowK_nil (a.kids.drop i) (b.kids.drop i) (.inr (List.drop_of_length_le (by omega)))
        rw [hl] at hn
        repeat' (first | refine aops_end ?_ | refine aops_pbt tok rfl (by first | omega | decide) rfl rfl rfl ?_ | refine aops_pbf tok rfl (by first | omega | decide) rfl rfl rfl ?_ | refine aops_p tok rfl rfl rfl rfl ?_ | refine acode_if rfl ?_ | refine acode_seq ?_ | refine acode_region ?_)
        refine acode_exit ?_
        repeat (first | refine exit_then ?_ | refine exit_here ?_ | refine then_n ?_)
        repeat' (first | refine aops_end ?_ | (refine aops_pd tok rfl rfl rfl rfl ?_ ?_ <;> intro e_) | refine aops_p tok rfl rfl rfl rfl ?_ | refine acode_seq ?_ | refine acode_region ?_)
        all_goals
          refine acode_ret ?_
          skip
          refine ⟨.bool (lowK a.kids b.kids), ⟨rfl, rfl⟩, resOf_tmp ?_⟩
          rw [hn, List.length_drop, List.length_drop]
          first | exact bt (by omega) | exact bf (by omega)
    · have hn := lowK_nil (a.kids.drop i) (b.kids.drop i) (.inl (List.drop_of_length_le (by omega)))
      rw [hl] at hn
      repeat' (first | refine aops_end ?_ | refine aops_o rfl rfl rfl ?_ | refine aops_pbf tok rfl (by first | omega | decide) rfl rfl rfl ?_ | refine aops_p tok rfl rfl rfl rfl ?_ | refine acode_if rfl ?_ | refine acode_seq ?_ | refine acode_region ?_)
      refine acode_exit ?_
      repeat (first | refine exit_then ?_ | refine exit_here ?_ | refine then_n ?_)
      repeat' (first | refine aops_end ?_ | (refine aops_pd tok rfl rfl rfl rfl ?_ ?_ <;> intro e_) | refine aops_p tok rfl rfl rfl rfl ?_ | refine acode_seq ?_ | refine acode_region ?_)
      all_goals
        refine acode_ret ?_
        skip
        refine ⟨.bool (lowK a.kids b.kids), ⟨rfl, rfl⟩, resOf_tmp ?_⟩
        rw [hn, List.length_drop, List.length_drop]
        first | exact bt (by omega) | exact bf (by omega)
  · have hF : lowF a b = decide (a.rule < b.rule) := by unfold lowF; rw [if_pos hr]
    rw [hF]
    repeat' (first | refine aops_end ?_ | (refine aops_pd tok rfl rfl rfl rfl ?_ ?_ <;> intro e_) | (refine aops_pn tok rfl rfl rfl rfl ?_ ?_ <;> intro e_) | refine aops_p tok rfl rfl rfl rfl ?_ | refine acode_it rfl ?_ | refine acode_if rfl ?_ | refine acode_seq ?_ | refine acode_region ?_ | refine acode_block ?_ | refine acode_skip ?_ | refine then_n ?_)
    any_goals (exfalso; omega)
    all_goals
      refine acode_ret ?_
      repeat (refine ret_then ?_)
      exact ⟨.bool (decide (a.rule < b.rule)), ⟨rfl, rfl⟩, resOf_tmp (by first | exact bt (by omega) | exact bf (by omega))⟩
end Go.Proofs.Ytbnhmioijeagiaa.Ab
/- Chapter 18's reference, sorted: the walk. No condition. -/
set_option linter.unusedVariables false
set_option linter.unusedSimpArgs false
namespace Go.Proofs.Ytbnhmioijeagiaa.Ab
attribute [local irreducible] thenA inBlockA ACode AOps put IntKind.wrap

def insK {α : Type} (lt : α → α → Bool) (x : α) : List α → List α
  | [] => [x]
  | y :: l => if lt y x then y :: insK lt x l else x :: y :: l
def sortK {α : Type} (lt : α → α → Bool) (l : List α) : List α := l.foldl (fun out x => insK lt x out) []
theorem insK_len {α : Type} (lt : α → α → Bool) (x : α) : ∀ l : List α, (insK lt x l).length = l.length + 1
  | [] => rfl
  | y :: l => by
    unfold insK; split
    · rw [List.length_cons, insK_len lt x l]; rfl
    · rfl
theorem insK_mem {α : Type} (lt : α → α → Bool) (x : α) : ∀ (l : List α) {z : α}, z ∈ insK lt x l ↔ z = x ∨ z ∈ l
  | [], z => by simp [insK]
  | y :: l, z => by
    unfold insK; split
    · simp only [List.mem_cons, insK_mem lt x l]
      constructor
      · rintro (h | h | h) <;> simp [h]
      · rintro (h | h | h) <;> simp [h]
    · simp
theorem encs_cut {α : Type} {e : α → List A} {s : Nat} (hs : ∀ x, (e x).length = s) (l : List α) (k : Nat) : ((encs e l).drop ((0 : Int).toNat * s)).take ((l.take k).length * s) = encs e (l.take k) := by
  rw [show (0 : Int).toNat * s = 0 by simp, List.drop_zero, encs_takeL hs, List.length_take]
  congr 1
  by_cases h : k ≤ l.length
  · rw [Nat.min_eq_left h]
  · rw [Nat.min_eq_right (by omega), List.take_of_length_le (by omega), List.take_of_length_le (by omega)]
theorem encs_rest {α : Type} {e : α → List A} {s : Nat} (hs : ∀ x, (e x).length = s) (l : List α) (k : Nat) {j : Int} (hj : j.toNat = k) : ((encs e l).drop (j.toNat * s)).take ((l.drop k).length * s) = encs e (l.drop k) := by
  rw [hj, encs_drop hs]
  exact List.take_of_length_le (by rw [encs_len hs]; exact Nat.le_refl _)
theorem alK_len (a : Al) : (alC a).length = 2 := rfl

set_option maxHeartbeats 8000000 in
theorem sorted_calls {l : List Al} (hl : l.length ≤ 1000000000) (hk : ∀ a ∈ l, a.kids.length ≤ 9223372036854775807) (M : List Ob) :
    ACalls Try.prog 40 [.psl l.length (encs alC l)] M (fun r M' => r = .psl (sortK lowF l).length (encs alC (sortK lowF l)) ∧ M' = M) := by
  refine acalls_of_code 44 Try.func40 rfl rfl rfl ?_
  repeat (first | refine aops_end ?_ | refine aops_p tok rfl rfl rfl rfl ?_ | refine acode_seq ?_ | refine acode_region ?_ | refine acode_block ?_)
  refine acode_freezeV (V := []) [(0, .psl l.length (encs alC l)), (3, .psl 0 []), (4, .int .i64 0)] ⟨.refl _, .nils, .refl _, trivial⟩ ?_
  have hfin : l.foldl (fun out x => insK lowF x out) [] = sortK lowF l := rfl
  generalize sortK lowF l = fin at *
  refine acode_loopS (ι := Nat × List Al) (fun p => [(0, .psl l.length (encs alC l)), (3, .psl p.2.length (encs alC p.2)), (4, .int .i64 p.1)]) (fun _ => M) (fun p => l.length - p.1) (fun p => p.1 ≤ l.length ∧ p.2.length = p.1 ∧ (∀ a ∈ p.2, a ∈ l) ∧ (l.drop p.1).foldl (fun out x => insK lowF x out) p.2 = fin) (0, []) ⟨Nat.zero_le _, rfl, by simp, hfin⟩ ⟨rfl, rfl, rfl, trivial⟩ rfl ?_
  clear hfin
  rintro ⟨i, out⟩ ⟨hi, hol, hom, hfold⟩
  simp only at hi hol hom hfold ⊢
  repeat (first | refine aops_end ?_ | refine aops_p tok rfl rfl rfl rfl ?_ | refine acode_seq ?_ | refine acode_region ?_)
  refine acode_id rfl (fun e => ?_) (fun e => ?_)
  · have hil : i < l.length := by omega
    obtain ⟨x, hx⟩ : ∃ x, l[i]? = some x := ⟨l[i], List.getElem?_eq_getElem hil⟩
    have hxm := List.mem_of_getElem? hx
    have hdx : l.drop i = x :: l.drop (i + 1) := by
      rw [List.drop_eq_getElem_cons hil]
      rw [List.getElem?_eq_getElem hil] at hx
      rw [Option.some.inj hx]
    rw [hdx, List.foldl_cons] at hfold
    have hil2 := insK_len lowF x out
    have him := fun z => insK_mem lowF x out (z := z)
    repeat (first | refine acode_seq ?_ | refine acode_region ?_ | refine acode_block ?_ | refine acode_skip ?_ | refine then_n ?_ | refine block_n ?_)
    repeat (refine aops_p tok rfl rfl rfl rfl ?_)
    refine aops_end ?_
    refine acode_seq ?_
    refine acode_joinI (ι := Nat) (fun k => [(0, .psl l.length (encs alC l)), (3, .psl out.length (encs alC out)), (4, .int .i64 i), (5, .int .i64 k)]) (fun _ => M) (fun k => k ≤ out.length ∧ insK lowF x out = out.take k ++ x :: out.drop k) ?_ ?_
    · repeat (refine acode_block ?_)
      refine acode_loopS (ι := Nat) (fun k => [(0, .psl l.length (encs alC l)), (3, .psl out.length (encs alC out)), (4, .int .i64 i), (5, .int .i64 k)]) (fun _ => M) (fun k => out.length - k) (fun k => k ≤ out.length ∧ insK lowF x out = out.take k ++ insK lowF x (out.drop k)) 0 ⟨Nat.zero_le _, by simp⟩ ⟨rfl, rfl, rfl, rfl, trivial⟩ rfl ?_
      rintro k ⟨hk1, hk2⟩
      by_cases hkl : k < out.length
      · obtain ⟨y, hy⟩ : ∃ y, out[k]? = some y := ⟨out[k], List.getElem?_eq_getElem hkl⟩
        have hym := hom y (List.mem_of_getElem? hy)
        have hdy : out.drop k = y :: out.drop (k + 1) := by
          rw [List.drop_eq_getElem_cons hkl]
          rw [List.getElem?_eq_getElem hkl] at hy
          rw [Option.some.inj hy]
        rw [hdy, insK] at hk2
        repeat (refine acode_seq ?_)
        refine acode_drawT 15 mixed (by kernel_rfl) (by kernel_rfl) ?_
        repeat' (first | refine seqT_o rfl rfl rfl ?_ | (refine seqT_pd tok rfl rfl rfl rfl ?_ ?_ <;> intro e_) | refine seqT_p tok rfl rfl rfl rfl ?_)
        any_goals (exfalso; omega)
        refine seqT_ix tok (alC y) rfl rfl rfl rfl (by omega) (by omega) (by simp [alC]) (encs_at (e := alC) (s := 2) (fun _ => rfl) (i := (k : Int).toNat) (by simpa using hy)) rfl rfl rfl ?_
        repeat (refine seqT_p tok rfl rfl rfl rfl ?_)
        refine seqT_ix tok (alC x) rfl rfl rfl rfl (by omega) (by omega) (by simp [alC]) (encs_at (e := alC) (s := 2) (fun _ => rfl) (i := (i : Int).toNat) (by simpa using hx)) rfl rfl rfl ?_
        repeat (refine seqT_p tok rfl rfl rfl rfl ?_)
        refine seqT_call _ Try.func73 rfl rfl rfl rfl (lower_calls (hk y hym) (hk x hxm) _) rfl rfl rfl ?_
        repeat (refine seqT_p tok rfl rfl rfl rfl ?_)
        refine SeqT.done ?_
        cases hlo : lowF y x with
        | true =>
          rw [hlo, if_pos rfl] at hk2
          repeat' (first | refine aops_end ?_ | refine aops_endb ?_ | refine aops_a tok rfl (by omega) (by omega) rfl rfl rfl ?_ | refine aops_p tok rfl rfl rfl rfl ?_ | refine acode_it rfl ?_ | refine acode_region ?_ | refine acode_block ?_ | refine acode_skip ?_ | refine then_n ?_)
          exact ⟨k + 1, ⟨by omega, by rw [hk2, List.take_add_one, hy]; simp⟩, by omega, ⟨rfl, rfl, rfl, rfl, trivial⟩, rfl⟩
        | false =>
          rw [hlo, if_neg (by simp)] at hk2
          repeat' (first | refine aops_end ?_ | refine acode_if rfl ?_)
          refine acode_exit ?_
          repeat (first | refine exit_then ?_ | refine exit_here ?_ | refine then_n ?_)
          exact ⟨k, ⟨hk1, by rw [hk2, hdy]⟩, ⟨rfl, rfl, rfl, rfl, trivial⟩, rfl⟩
      · rw [List.drop_of_length_le (show out.length ≤ k by omega), insK] at hk2
        repeat (refine acode_seq ?_)
        refine acode_drawT 15 mixed (by kernel_rfl) (by kernel_rfl) ?_
        repeat' (first | refine seqT_o rfl rfl rfl ?_ | (refine seqT_pd tok rfl rfl rfl rfl ?_ ?_ <;> intro e_) | refine seqT_p tok rfl rfl rfl rfl ?_)
        any_goals (exfalso; omega)
        refine SeqT.done ?_
        repeat' (first | refine aops_end ?_ | refine acode_if rfl ?_)
        refine acode_exit ?_
        repeat (first | refine exit_then ?_ | refine exit_here ?_ | refine then_n ?_)
        exact ⟨k, ⟨hk1, by rw [hk2, List.drop_of_length_le (by omega)]⟩, ⟨rfl, rfl, rfl, rfl, trivial⟩, rfl⟩
    rintro k ⟨hk1, hk2⟩
    rw [hk2] at hfold hil2 him
    skip
    refine acode_drawP [] 14 [0, 1, 2, 4, 5, 6, 7, 8, 10, 11, 12, 3, 9, 13] [11, 12, 13] mixed (by kernel_rfl) (by kernel_rfl) rfl ?_
    repeat (refine seqO_p tok rfl rfl rfl rfl rfl ?_)
    refine seqO_slc tok (out.take k).length (encs alC (out.take k)) rfl rfl rfl rfl rfl rfl (by omega) (by omega) (by omega) (by rw [List.length_take, Nat.min_eq_left hk1]; omega) (encs_len alK_len out) (encs_cut alK_len out k) rfl rfl rfl ?_
    repeat (refine seqO_p tok rfl rfl rfl rfl rfl ?_)
    refine seqO_ix tok (alC x) rfl rfl rfl rfl rfl (by omega) (by omega) (by simp [alC]) (encs_at (e := alC) (s := 2) (fun _ => rfl) (i := (i : Int).toNat) (by simpa using hx)) rfl rfl rfl ?_
    repeat (refine seqO_p tok rfl rfl rfl rfl rfl ?_)
    refine seqO_lit tok rfl rfl rfl rfl rfl rfl rfl rfl rfl ?_
    repeat (refine seqO_p tok rfl rfl rfl rfl rfl ?_)
    refine seqO_slc tok (out.drop k).length (encs alC (out.drop k)) rfl rfl rfl rfl rfl rfl (by omega) (by omega) (by omega) (by rw [List.length_drop]; omega) (encs_len alK_len out) (encs_rest alK_len out k (by omega)) rfl rfl rfl ?_
    refine seqO_appn tok rfl rfl rfl rfl rfl (encs_len alK_len _) (encs_cell (fun _ => rfl) _) rfl (by show _ * 32 ≤ _; rw [List.length_take]; omega) (by rw [List.length_take]; omega) (by simp) rfl rfl rfl fun ob' cap' => ?_
    refine seqO_app tok 0 (m := 1) (ds := alC x) rfl rfl rfl rfl (.inl rfl) rfl rfl (encs_len alK_len _) rfl rfl rfl (by show _ * 32 ≤ _; rw [List.length_take]; omega) (by rw [List.length_take]; omega) (by simp) rfl rfl rfl fun ob2 cap2 => ?_
    refine seqO_appz tok 0 (m := (out.drop k).length) (ds := encs alC (out.drop k)) rfl rfl rfl rfl rfl rfl rfl (by rw [List.length_append, encs_len alK_len]; show _ = _ * 2; rw [Nat.add_mul]; rfl) (encs_len alK_len _) (encs_cell (fun _ => rfl) _) rfl (by show _ * 32 ≤ _; rw [List.length_take, List.length_drop]; omega) (by rw [List.length_take, List.length_drop]; omega) (by simp) rfl rfl rfl ?_
    refine SeqO.done ?_
    repeat (first | refine aops_end ?_ | refine aops_endb ?_ | refine aops_a tok rfl (by omega) (by omega) rfl rfl rfl ?_ | refine aops_p tok rfl rfl rfl rfl ?_ | refine acode_region ?_ | refine then_n ?_)
    refine ⟨(i + 1, out.take k ++ x :: out.drop k), ⟨by simp only; omega, by simp only [hil2]; omega, fun a ha => ?_, hfold⟩, by simp only; omega, ⟨rfl, ?_, rfl, trivial⟩, rfl⟩
    · rcases (him a).1 ha with rfl | h
      · exact hxm
      · exact hom a h
    · show A.psl _ _ = A.psl _ _
      rw [encs_app]
      congr 1
      · simp; omega
      · simp [encs]
  · obtain rfl : i = l.length := by omega
    rw [List.drop_length, List.foldl_nil] at hfold
    subst hfold
    refine acode_exit ?_
    repeat (first | refine exit_then ?_ | refine exit_here ?_ | refine then_n ?_)
    repeat (first | refine aops_end ?_ | refine aops_p tok rfl rfl rfl rfl ?_ | refine acode_seq ?_ | refine acode_region ?_)
    refine acode_ret ?_
    skip
    exact ⟨_, ⟨rfl, rfl⟩, resOf_tmp rfl⟩
end Go.Proofs.Ytbnhmioijeagiaa.Ab
/- Chapter 17's reference, what is behind a point: the walk. No condition. -/
set_option linter.unusedVariables false
set_option linter.unusedSimpArgs false
namespace Go.Proofs.Ytbnhmioijeagiaa.Ab
attribute [local irreducible] thenA inBlockA ACode AOps put IntKind.wrap

def behF (g : Gr) (r a : Int) : Int × Bool := if r = -1 then (g.start, decide (a = 0)) else if 0 ≤ r ∧ r < g.rules.length ∧ 0 ≤ a ∧ a < (ruleAt g r).right.length then ((ruleAt g r).right.getD a.toNat 0, true) else (0, false)
def behA (x : Int × Bool) : A := .tup [.int .i64 x.1, .bool x.2]
set_option maxHeartbeats 8000000 in
theorem behind_calls {g : Gr} {r a : Int} (M : List Ob) :
    ACalls Try.prog 95 [grA g, .agg [.int .i64 r, .int .i64 a]] M (fun x M' => x = behA (behF g r a) ∧ M' = M) := by
  refine acalls_of_code 54 Try.func95 rfl rfl rfl ?_
  repeat (first | refine acode_seq ?_ | refine acode_region ?_)
  refine aops_boxf rfl rfl rfl rfl rfl rfl rfl ?_
  skip
  refine aops_boxf rfl rfl rfl rfl rfl rfl rfl ?_
  by_cases hr : r = -1
  · have hF : behF g r a = (g.start, decide (a = 0)) := by unfold behF; rw [if_pos hr]
    rw [hF]
    repeat' (first | refine aops_end ?_ | (refine aops_pd tok rfl rfl rfl rfl ?_ ?_ <;> intro e_) | refine aops_p tok rfl rfl rfl rfl ?_ | refine acode_it rfl ?_ | refine acode_if rfl ?_ | refine acode_seq ?_ | refine acode_region ?_ | refine acode_skip ?_ | refine then_n ?_)
    any_goals (exfalso; omega)
    refine acode_drawT 7 mixed (by kernel_rfl) (by kernel_rfl) ?_
    repeat' (first | (refine seqT_pd tok rfl rfl rfl rfl ?_ ?_ <;> intro e_) | refine seqT_p tok rfl rfl rfl rfl ?_)
    all_goals
      refine SeqT.done ?_
      repeat (refine aops_end ?_)
      refine acode_ret ?_
      repeat (refine ret_then ?_)
      exact ⟨behA (g.start, decide (a = 0)), ⟨rfl, rfl⟩, _, _, rfl, resOf_tmp rfl, resOf_tmp (by first | exact bt (by omega) | exact bf (by omega))⟩
  · have hF : behF g r a = if 0 ≤ r ∧ r < g.rules.length ∧ 0 ≤ a ∧ a < (ruleAt g r).right.length then ((ruleAt g r).right.getD a.toNat 0, true) else (0, false) := by unfold behF; rw [if_neg hr]
    rw [hF]
    repeat' (first | refine aops_end ?_ | (refine aops_pd tok rfl rfl rfl rfl ?_ ?_ <;> intro e_) | refine aops_p tok rfl rfl rfl rfl ?_ | refine acode_it rfl ?_ | refine acode_if rfl ?_ | refine acode_seq ?_ | refine acode_region ?_ | refine acode_skip ?_ | refine then_n ?_)
    any_goals (exfalso; omega)
    refine acode_drawT 29 mixed (by kernel_rfl) (by kernel_rfl) ?_
    repeat' (first | refine seqT_o rfl rfl rfl ?_ | (refine seqT_pd tok rfl rfl rfl rfl ?_ ?_ <;> intro e_) | refine seqT_p tok rfl rfl rfl rfl ?_)
    all_goals try
      (refine SeqT.done ?_
       repeat (refine aops_end ?_)
       rw [if_neg (by omega)]
       repeat' (first | refine aops_end ?_ | refine aops_p tok rfl rfl rfl rfl ?_ | refine acode_it rfl ?_ | refine acode_seq ?_ | refine acode_region ?_)
       refine acode_ret ?_
       repeat (refine ret_then ?_)
       exact ⟨_, ⟨rfl, rfl⟩, _, _, rfl, resOf_tmp rfl, resOf_tmp rfl⟩)
    have a0 : 0 ≤ r := by omega
    have a1 : r < g.rules.length := by omega
    refine seqT_ix tok (ruC (ruleAt g r)) rfl rfl rfl rfl a0 a1 (by simp [ruC]) (encs_at (e := ruC) (s := 3) (fun _ => rfl) (ruleAt_at a0 a1)) rfl rfl rfl ?_
    repeat' (first | (refine seqT_pd tok rfl rfl rfl rfl ?_ ?_ <;> intro e_) | refine seqT_p tok rfl rfl rfl rfl ?_)
    · refine SeqT.done ?_
      rw [if_neg (by omega)]
      repeat' (first | refine aops_end ?_ | refine aops_p tok rfl rfl rfl rfl ?_ | refine acode_it rfl ?_ | refine acode_seq ?_ | refine acode_region ?_)
      refine acode_ret ?_
      repeat (refine ret_then ?_)
      exact ⟨_, ⟨rfl, rfl⟩, _, _, rfl, resOf_tmp rfl, resOf_tmp rfl⟩
    · have b0 : 0 ≤ a := by omega
      have b1 : a < (ruleAt g r).right.length := by omega
      refine SeqT.done ?_
      rw [if_pos ⟨a0, a1, b0, b1⟩]
      repeat' (first | refine aops_end ?_ | refine acode_if rfl ?_ | refine acode_seq ?_ | refine acode_skip ?_ | refine then_n ?_)
      refine acode_drawT 11 mixed (by kernel_rfl) (by kernel_rfl) ?_
      repeat (refine seqT_p tok rfl rfl rfl rfl ?_)
      refine seqT_ix tok (ruC (ruleAt g r)) rfl rfl rfl rfl a0 a1 (by simp [ruC]) (encs_at (e := ruC) (s := 3) (fun _ => rfl) (ruleAt_at a0 a1)) rfl rfl rfl ?_
      repeat (refine seqT_p tok rfl rfl rfl rfl ?_)
      refine seqT_ix tok [A.int .i64 ((ruleAt g r).right.getD a.toNat 0)] rfl rfl rfl rfl b0 b1 (by simp) (ints_at (int_at b0 b1)) rfl rfl rfl ?_
      repeat (refine seqT_p tok rfl rfl rfl rfl ?_)
      refine SeqT.done ?_
      repeat (first | refine aops_end ?_ | refine aops_p tok rfl rfl rfl rfl ?_)
      refine acode_ret ?_
      skip
      exact ⟨_, ⟨rfl, rfl⟩, _, _, rfl, resOf_tmp rfl, resOf_tmp rfl⟩
end Go.Proofs.Ytbnhmioijeagiaa.Ab
/- Points held against each other; chapter 17's reference, has: the walk. No condition. -/
set_option linter.unusedVariables false
set_option linter.unusedSimpArgs false
namespace Go.Proofs.Ytbnhmioijeagiaa.Ab
section
variable {P : Program} {T : List TI} {N : Nat} {ops : Array Oper} {rest : List Oper} {o : Oper} {Q : Exit → St → Prop} {E F : Env} {M : List Ob}
theorem part_agg {s : Nat} {si : TI} (hs : TG P s si) (hk : si.k.isAgg = true) {l : List Int} {k : Nat} {m : List Int} (h : ((ints l).drop k).take si.size = ints m) (w : World) : (part s (l.map (Value.int .i64)).toArray k).run P w = .ok (.agg (m.map (Value.int .i64)).toArray) w := by
  obtain ⟨v, h1, h2⟩ := part_run (w := w) hs (ints_repL ⟨fun _ => [], fun _ => none, fun _ => False, fun _ => none⟩ l) (off := k) (r := .agg (ints m)) (by rw [hk]; simp [h])
  obtain ⟨vs, rfl, h3⟩ := h2
  rw [h1, ints_val h3]
theorem aops_eqpt (hT : TOk P T) {t t' d e s : Nat} {si : TI} {x y : Operand} (a b c a' b' c' : Int) (ho : o.op = .binOp .eql t x y t') (ht : kindOf T t = some (.struct [(0, s), (2, e)])) (hs : known T s = some si) (hsk : si.k = .struct [(0, e), (1, e)]) (hsz : si.size = 2) (he : kindOf T e = some (.int .i64)) (hB : eqstB P t = true) (hBs : eqstB P s = true) (hx : opA E x = .agg (ints [a, b, c])) (hy : opA E y = .agg (ints [a', b', c'])) (hg : guardOn ops o E = some true) (hd : o.dst = some d) (hN : Nat.blt d N = true)
    (next : AOps P N ops rest Q ⟨(d, .bool ([a, b, c] == [a', b', c'])) :: E, M⟩) : AOps P N ops (o :: rest) Q ⟨E, M⟩ := by
  refine aops_val hg (by rw [hd]; exact hN) (.bool ([a, b, c] == [a', b', c'])) M (fun K G av w hi => ?_) (by rw [hd]; exact next)
  have hrx := opA_rep hi x
  have hry := opA_rep hi y
  rw [hx] at hrx; rw [hy] at hry
  obtain ⟨vx, ex, rx⟩ := hrx
  obtain ⟨vy, ey, ry⟩ := hry
  have e1 := ints_val rx
  have e2 := ints_val ry
  subst e1; subst e2
  simp only [eqstB, Bool.and_eq_true, Bool.not_eq_true'] at hB hBs
  obtain ⟨⟨b1, b2⟩, b3⟩ := hB
  obtain ⟨⟨c1, c2⟩, c3⟩ := hBs
  obtain ⟨ti, hti, hk⟩ := Option.map_eq_some_iff.1 ht
  obtain ⟨k1, k2⟩ := known_spec hti
  obtain ⟨tk, ts, tb, tz⟩ := ti
  simp only at hk
  subst hk
  obtain ⟨gs, hu, hgs⟩ := und_struct (hT.get k1 k2)
  have hfo : P.fieldsOf t = gs := by simp [Program.fieldsOf, hu]
  obtain ⟨k5, k6⟩ := known_spec hs
  have hTs := hT.get k5 k6
  have hag : si.k.isAgg = true := by rw [hsk]; rfl
  obtain ⟨sk, ss, sb, sz⟩ := si
  simp only at hsk hsz
  subst hsk; subst hsz
  obtain ⟨hs2, hus, hhs⟩ := und_struct hTs
  have hfs : P.fieldsOf s = hs2 := by simp [Program.fieldsOf, hus]
  obtain ⟨ei, hei, hke⟩ := Option.map_eq_some_iff.1 he
  obtain ⟨k3, k4⟩ := known_spec hei
  have hTe := hT.get k3 k4
  have hlen : hs2.toList.length = 2 := by have := congrArg List.length hhs; simpa using this
  have hF := eqFields_ints hTe hke [a, b] [a', b'] 9997 w hs2.toList 0 (by rw [hlen]; exact hhs) (fun f hf => by
    have := Array.all_eq_true_iff_forall_mem.1 c1 f (by rw [hfs]; exact Array.mem_toList_iff.1 hf)
    simpa using this) (by simp [hlen]) (by simp [hlen])
  obtain ⟨f0, f1, hgl⟩ : ∃ f0 f1, gs.toList = [f0, f1] := by
    have hl2 : gs.toList.length = 2 := by have := congrArg List.length hgs; simpa using this
    generalize gs.toList = L at hl2
    match L, hl2 with
    | [f0, f1], _ => exact ⟨f0, f1, rfl⟩
  rw [hgl] at hgs
  simp only [List.map_cons, List.map_nil, List.cons.injEq, Prod.mk.injEq, and_true] at hgs
  obtain ⟨⟨o0, t0⟩, o1, t1⟩ := hgs
  have hn : ∀ f ∈ gs.toList, f.name ≠ "_" := fun f hf => by
    have := Array.all_eq_true_iff_forall_mem.1 b1 f (by rw [hfo]; exact Array.mem_toList_iff.1 hf)
    simpa using this
  have hu3 := und_int hTe hke
  refine ⟨.bool ([a, b, c] == [a', b', c']), w, G, ?_, hi.ok, G.le_refl, rfl⟩
  have hq : (binOp .eql t (.agg ([a, b, c].map (Value.int .i64)).toArray) (.agg ([a', b', c'].map (Value.int .i64)).toArray)).run P w = .ok (.bool ([a, b, c] == [a', b', c'])) w := by
    rw [run_eql_struct, run_equalIn_agg w 9999 t _ _ (by rw [hfo]; exact hu) b2, hfo, hgl]
    simp only [Op.eqFields, if_pos (hn f0 (by rw [hgl]; simp)), if_pos (hn f1 (by rw [hgl]; simp)), Sem.run_bind, o0, t0, o1, t1]
    rw [part_agg hTs hag (l := [a, b, c]) (k := 0) (m := [a, b]) rfl w]
    simp only [Result.andThen_ok]
    rw [part_agg hTs hag (l := [a', b', c']) (k := 0) (m := [a', b']) rfl w]
    simp only [Result.andThen_ok]
    rw [run_equalIn_agg w 9998 s _ _ (by rw [hfs]; exact hus) c2, hfs, hF]
    simp only [Result.andThen_ok, List.drop_zero]
    rw [show ([a, b, c] == [a', b', c']) = (([a, b] == [a', b']) && (c == c')) by rw [Bool.eq_iff_iff]; simp [and_assoc]]
    cases ([a, b] == [a', b']) with
    | false => simp
    | true =>
      simp only [Bool.not_true, Bool.false_eq_true, if_false, Bool.true_and, Sem.run_bind]
      rw [part_int hTe hke (l := [a, b, c]) (k := 2) (x := c) rfl w]
      simp only [Result.andThen_ok]
      rw [part_int hTe hke (l := [a', b', c']) (k := 2) (x := c') rfl w]
      simp only [Result.andThen_ok, run_equalIn_int w 9998 e .i64 .i64 _ _ hu3]
      cases (c == c') <;> simp
  simp only [execOp, ho, ex, ey, Sem.run_bind, Result.andThen_ok]
  rw [run_eqGuard_agg w .eql t x y _ _ b3]
  simp only [Result.andThen_ok]
  rw [hq]
  rfl
end
end Go.Proofs.Ytbnhmioijeagiaa.Ab
/- Chapter 17's reference, has and fill: the walk. No condition. -/
set_option linter.unusedVariables false
set_option linter.unusedSimpArgs false
namespace Go.Proofs.Ytbnhmioijeagiaa.Ab
section
variable {P : Program} {T : List TI} {N : Nat} {ops : Array Oper} {o : Oper} {F : Env} {M : List Ob}
theorem yields_eqpt (hT : TOk P T) {t t' d e s : Nat} {si : TI} {x y : Operand} (a b c a' b' c' : Int) (ho : o.op = .binOp .eql t x y t') (ht : kindOf T t = some (.struct [(0, s), (2, e)])) (hs : known T s = some si) (hsk : si.k = .struct [(0, e), (1, e)]) (hsz : si.size = 2) (he : kindOf T e = some (.int .i64)) (hB : eqstB P t = true) (hBs : eqstB P s = true) (hx : opA F x = .agg (ints [a, b, c])) (hy : opA F y = .agg (ints [a', b', c'])) (hg : guardOn ops o F = some true) (hd : o.dst = some d) (hN : Nat.blt d N = true) : Yields P N ops o (.bool ([a, b, c] == [a', b', c'])) F M := by
  intro E hE rest Q next
  rw [hd] at next
  exact aops_eqpt hT a b c a' b' c' ho ht hs hsk hsz he hB hBs ((agree_op hE (by rw [ho]; simp [Op.operands])).trans hx) ((agree_op hE (by rw [ho]; simp [Op.operands])).trans hy) ((agree_guard hE).trans hg) hd hN next
end
attribute [local irreducible] thenA inBlockA ACode AOps put IntKind.wrap

set_option maxHeartbeats 4000000 in
theorem rhas_calls {l : List Ky} {p : Ky} (hl : l.length ≤ 9223372036854775807) (M : List Ob) :
    ACalls Try.prog 107 [.psl l.length (encs f3C l), .agg (f3C p)] M (fun r M' => r = .bool (decide (p ∈ l)) ∧ M' = M) := by
  refine acalls_of_code 18 Try.func107 rfl rfl rfl ?_
  repeat (first | refine acode_seq ?_ | refine acode_region ?_)
  refine aops_boxf rfl rfl rfl rfl rfl rfl rfl ?_
  repeat (first | refine aops_end ?_ | refine aops_p tok rfl rfl rfl rfl ?_ | refine acode_seq ?_ | refine acode_region ?_ | refine acode_block ?_)
  refine acode_loopS (ι := Nat) (fun i => [(0, .psl l.length (encs f3C l)), (3, .pp (f3C p)), (5, .int .i64 i)]) (fun _ => M) (fun i => l.length - i) (fun i => i ≤ l.length ∧ p ∉ l.take i) 0 ⟨Nat.zero_le _, by simp⟩ ⟨rfl, rfl, rfl, trivial⟩ rfl ?_
  rintro i ⟨hi, hf⟩
  repeat (first | refine aops_end ?_ | refine aops_p tok rfl rfl rfl rfl ?_ | refine acode_seq ?_ | refine acode_region ?_)
  refine acode_id rfl (fun e => ?_) (fun e => ?_)
  · have hil : i < l.length := by omega
    obtain ⟨s, hs⟩ : ∃ s, l[i]? = some s := ⟨l[i], List.getElem?_eq_getElem hil⟩
    repeat (first | refine acode_seq ?_ | refine acode_block ?_ | refine acode_skip ?_ | refine then_n ?_)
    refine acode_drawT 6 mixed (by kernel_rfl) (by kernel_rfl) ?_
    repeat (refine seqT_p tok rfl rfl rfl rfl ?_)
    refine seqT_ix tok (f3C s) rfl rfl rfl rfl (by omega) (by omega) (by simp [f3C]) (encs_at (e := f3C) (s := 3) (fun _ => rfl) (i := (i : Int).toNat) (by simpa using hs)) rfl rfl rfl ?_
    repeat (refine seqT_p tok rfl rfl rfl rfl ?_)
    refine seqT_y (yields_eqpt tok s.1 s.2.1 s.2.2 p.1 p.2.1 p.2.2 rfl rfl rfl rfl rfl rfl (by kernel_rfl) (by kernel_rfl) rfl rfl rfl rfl rfl) rfl ?_
    refine SeqT.done ?_
    rw [show ([s.1, s.2.1, s.2.2] == [p.1, p.2.1, p.2.2]) = decide (s = p) from kyL_eq s p]
    by_cases hk : s = p
    · rw [decide_eq_true hk]
      repeat' (first | refine aops_end ?_ | refine aops_p tok rfl rfl rfl rfl ?_ | refine acode_it rfl ?_ | refine acode_seq ?_ | refine acode_region ?_)
      refine acode_ret ?_
      repeat (first | refine ret_then ?_ | refine ret_block ?_)
      exact ⟨_, ⟨rfl, rfl⟩, resOf_tmp (by rw [decide_eq_true (show p ∈ l from hk ▸ List.mem_of_getElem? hs)]; rfl)⟩
    · rw [decide_eq_false hk]
      repeat' (first | refine aops_end ?_ | refine aops_a tok rfl (by omega) (by omega) rfl rfl rfl ?_ | refine aops_p tok rfl rfl rfl rfl ?_ | refine acode_if rfl ?_ | refine acode_region ?_ | refine acode_skip ?_ | refine then_n ?_ | refine block_n ?_)
      exact ⟨i + 1, ⟨by omega, by rw [List.take_add_one, hs]; simp [hf, fun h => hk (Eq.symm h)]; exact fun h => hk h.symm⟩, by omega, ⟨rfl, rfl, rfl, trivial⟩, rfl⟩
  · obtain rfl : i = l.length := by omega
    rw [List.take_length] at hf
    refine acode_exit ?_
    repeat (first | refine exit_then ?_ | refine exit_here ?_ | refine then_n ?_)
    repeat (first | refine aops_end ?_ | refine aops_p tok rfl rfl rfl rfl ?_ | refine acode_seq ?_ | refine acode_region ?_)
    refine acode_ret ?_
    skip
    exact ⟨_, ⟨rfl, rfl⟩, resOf_tmp (by rw [decide_eq_false hf]; rfl)⟩

def ptOk (g : Gr) (k : Nat) (p : Ky) : Prop := (p.1 = -1 ∧ (p.2.1 = 0 ∨ p.2.1 = 1) ∨ (0 ≤ p.1 ∧ p.1 < g.rules.length ∧ 0 ≤ p.2.1 ∧ p.2.1 ≤ (ruleAt g p.1).right.length)) ∧ 0 ≤ p.2.2 ∧ p.2.2 ≤ k
theorem ptOk_mono {g : Gr} {k m : Nat} (h : k ≤ m) {p : Ky} (hp : ptOk g k p) : ptOk g m p := ⟨hp.1, hp.2.1, by have := hp.2.2; omega⟩
def allP (k : Nat) : List Ky := (List.range 61).flatMap fun (r : Nat) => (List.range 9).flatMap fun (a : Nat) => (List.range (k + 1)).map fun (f : Nat) => ((r : Int) - 1, (a : Int), (f : Int))
theorem flat_len {α β : Type} (f : α → List β) (m : Nat) (hf : ∀ x, (f x).length = m) : ∀ l : List α, (l.flatMap f).length = l.length * m
  | [] => by simp
  | x :: l => by rw [List.flatMap_cons, List.length_append, hf, flat_len f m hf l, List.length_cons, Nat.add_mul]; omega
theorem allP_len (k : Nat) : (allP k).length = 549 * (k + 1) := by
  unfold allP
  rw [flat_len _ (9 * (k + 1)) (fun r => by rw [flat_len _ (k + 1) (fun a => by simp)]; simp), List.length_range]
  omega
theorem allP_mem {g : Gr} {n k : Nat} (fo : FormOk g n) {p : Ky} (h : ptOk g k p) : p ∈ allP k := by
  obtain ⟨h1, h2, h3⟩ := h
  obtain ⟨r, a, f⟩ := p
  simp only at h1 h2 h3
  have hr : -1 ≤ r ∧ r < 60 ∧ 0 ≤ a ∧ a ≤ 8 := by
    rcases h1 with ⟨rfl, h | h⟩ | ⟨h4, h5, h6, h7⟩
    · omega
    · omega
    · have := fo.rl
      have := fo.len _ (List.mem_of_getElem? (ruleAt_at h4 h5))
      omega
  unfold allP
  rw [List.mem_flatMap]
  refine ⟨(r + 1).toNat, by simp; omega, ?_⟩
  rw [List.mem_flatMap]
  refine ⟨a.toNat, by simp; omega, ?_⟩
  rw [List.mem_map]
  refine ⟨f.toNat, by simp; omega, ?_⟩
  rw [Prod.mk.injEq, Prod.mk.injEq]
  omega
def missP (k : Nat) (l : List Ky) : Nat := ((allP k).filter fun p => decide (p ∉ l)).length
theorem missP_le (k : Nat) (l : List Ky) : missP k l ≤ 549 * (k + 1) := by rw [← allP_len]; exact List.length_filter_le ..
theorem filter_lt {α : Type} (f h : α → Bool) (himp : ∀ x, h x = true → f x = true) : ∀ (l : List α), (l.filter h).length ≤ (l.filter f).length ∧ ((∃ x ∈ l, f x = true ∧ h x = false) → (l.filter h).length < (l.filter f).length)
  | [] => ⟨Nat.le_refl _, fun ⟨x, hx, _⟩ => by cases hx⟩
  | y :: l => by
    obtain ⟨i1, i2⟩ := filter_lt f h himp l
    rw [List.filter_cons, List.filter_cons]
    have hy := himp y
    constructor
    · cases hh : h y
      · cases hf : f y <;> simp <;> omega
      · rw [hy hh]; simp; exact i1
    · rintro ⟨x, hx, hfx, hhx⟩
      rcases List.mem_cons.1 hx with rfl | hx
      · rw [hfx, hhx]; simp; omega
      · have := i2 ⟨x, hx, hfx, hhx⟩
        cases hh : h y
        · cases hf : f y <;> simp <;> omega
        · rw [hy hh]; simp; exact this
theorem missP_app {g : Gr} {n k : Nat} (fo : FormOk g n) {l : List Ky} {p : Ky} (hp : ptOk g k p) (hn : p ∉ l) : missP k (l ++ [p]) < missP k l := by
  unfold missP
  refine (filter_lt _ _ (fun x hx => ?_) (allP k)).2 ⟨p, allP_mem fo hp, by simpa using hn, by simp⟩
  simp only [decide_eq_true_eq, List.mem_append, not_or] at hx ⊢
  exact hx.1
end Go.Proofs.Ytbnhmioijeagiaa.Ab
/- Chapter 17's reference, fill: the walk. No condition. -/
set_option linter.unusedVariables false
set_option linter.unusedSimpArgs false
namespace Go.Proofs.Ytbnhmioijeagiaa.Ab
attribute [local irreducible] thenA inBlockA ACode AOps put IntKind.wrap

def allA (all : List (List Ky)) : List A := all.map fun x => A.psl x.length (encs f3C x)
theorem allA_at {all : List (List Ky)} {j : Int} {x : List Ky} (h : all[j.toNat]? = some x) : [A.psl x.length (encs f3C x)] <+: (allA all).drop (j.toNat * 1) := by
  rw [Nat.mul_one]
  have hlt : j.toNat < all.length := (List.getElem?_eq_some_iff.1 h).1
  rw [List.drop_eq_getElem_cons (by simpa [allA] using hlt)]
  have h2 : (allA all)[j.toNat]? = some (A.psl x.length (encs f3C x)) := by simp [allA, h]
  rw [List.getElem?_eq_some_iff] at h2
  obtain ⟨h3, h4⟩ := h2
  rw [h4]
  exact ⟨(allA all).drop (j.toNat + 1), rfl⟩
theorem f3_cut {l : List Ky} {i : Nat} {p : Ky} (h : l[i]? = some p) : f3C p <+: (encs f3C l).drop (i * 3) := encs_at (e := f3C) (s := 3) (fun _ => rfl) h
theorem f3_cell {l : List Ky} {i q : Nat} {p : Ky} {x : A} (h : l[i]? = some p) (hx : (f3C p)[q]? = some x) : (encs f3C l)[i * 3 + q]? = some x := by
  obtain ⟨t, ht⟩ := f3_cut h
  have : ((encs f3C l).drop (i * 3))[q]? = some x := by rw [← ht, List.getElem?_append_left (List.getElem?_eq_some_iff.1 hx).1]; exact hx
  rwa [List.getElem?_drop] at this
theorem item_ld {l : List Ky} {i : Nat} {p : Ky} (h : l[i]? = some p) : (bif Nat.ble (i * 3 + 2) (encs f3C l).length then some (A.agg (((encs f3C l).drop (i * 3)).take 2)) else none) = some (.agg [.int .i64 p.1, .int .i64 p.2.1]) := by
  have hlt : i < l.length := (List.getElem?_eq_some_iff.1 h).1
  obtain ⟨t, ht⟩ := f3_cut h
  have h1 : Nat.ble (i * 3 + 2) (encs f3C l).length = true := by rw [encs_len (e := f3C) (s := 3) (fun _ => rfl)]; simp; omega
  rw [h1, ← ht]; rfl
theorem behF_ok {g : Gr} {r a s : Int} (h : behF g r a = (s, true)) : (r = -1 ∧ a = 0 ∧ s = g.start) ∨ (0 ≤ r ∧ r < g.rules.length ∧ 0 ≤ a ∧ a < (ruleAt g r).right.length ∧ s = (ruleAt g r).right.getD a.toNat 0) := by
  unfold behF at h
  split at h
  · rename_i h1
    rw [Prod.mk.injEq] at h
    exact .inl ⟨h1, of_decide_eq_true h.2, h.1.symm⟩
  · split at h
    · rename_i h1 h2
      rw [Prod.mk.injEq] at h
      exact .inr ⟨h2.1, h2.2.1, h2.2.2.1, h2.2.2.2, h.1.symm⟩
    · simp at h
theorem ptOk_next {g : Gr} {k : Nat} {r a f s : Int} (h : ptOk g k (r, a, f)) (hb : behF g r a = (s, true)) : ptOk g k (r, a + 1, f) := by
  obtain ⟨h1, h2⟩ := h
  refine ⟨?_, h2⟩
  rcases behF_ok hb with ⟨rfl, rfl, _⟩ | ⟨b1, b2, b3, b4, _⟩
  · exact .inl ⟨rfl, .inr rfl⟩
  · exact .inr ⟨b1, b2, by simp only; omega, by simp only; omega⟩
theorem beh_name {g : Gr} {n : Nat} (fo : FormOk g n) {r a s : Int} (hb : behF g r a = (s, true)) (hs : 0 ≤ s) : isName g s := by
  rcases behF_ok hb with ⟨rfl, rfl, rfl⟩ | ⟨b1, b2, b3, b4, rfl⟩
  · exact fo.st
  · have hm := List.mem_of_getElem? (ruleAt_at b1 b2)
    have := fo.sym _ hm _ (List.mem_of_getElem? (int_at b3 b4))
    exact this.resolve_left (fun h => by unfold isKind at h; omega)

set_option maxHeartbeats 32000000 in
theorem fill_calls {g : Gr} {n k L0 : Nat} {null : List Bool} {all : List (List Ky)} (fo : FormOk g n) (hn : g.names = n) (hnl : null.length = n) (hal : all.length = k) (hk : k ≤ 2001) (hall : ∀ i x, all[i]? = some x → x.length ≤ 1000000000000 ∧ ∀ p ∈ x, ptOk g i p) {l : List Ky} {ob : Option Nat} {cap : Nat} (hl : ∀ p ∈ l, ptOk g k p) (hL0 : l.length = L0) (hL1 : L0 ≤ 1000000000000) (M : List Ob) :
    ACalls Try.prog 94 [grA g, .psl n (bools null), .psl k (allA all), .own ob l.length cap] (⟨ob, cap * 3, encs f3C l⟩ :: M) (fun r M' => ∃ l' ob' cap', r = .own ob' l'.length cap' ∧ M' = ⟨ob', cap' * 3, encs f3C l'⟩ :: M ∧ (∀ p ∈ l', ptOk g k p) ∧ l'.length ≤ L0 + 549 * (k + 1)) := by
  have hrl := fo.rl
  refine acalls_of_code 200 Try.func94 rfl rfl rfl ?_
  repeat (first | refine acode_seq ?_ | refine acode_region ?_)
  refine aops_boxf rfl rfl rfl rfl rfl rfl rfl ?_
  repeat (first | refine aops_end ?_ | refine aops_p tok rfl rfl rfl rfl ?_ | refine acode_seq ?_ | refine acode_region ?_ | refine acode_block ?_)
  have hm0 := missP_le k l
  refine acode_loopS (ι := Nat × List Ky × Option Nat × Nat) (fun p => [(1, .psl n (bools null)), (2, .psl k (allA all)), (3, .own p.2.2.1 p.2.1.length p.2.2.2), (4, .pp (grC g)), (9, .int .i64 k), (10, .int .i64 p.1)]) (fun p => ⟨p.2.2.1, p.2.2.2 * 3, encs f3C p.2.1⟩ :: M) (fun p => (p.2.1.length - p.1) + missP k p.2.1) (fun p => p.1 ≤ p.2.1.length ∧ (∀ q ∈ p.2.1, ptOk g k q) ∧ p.2.1.length + missP k p.2.1 ≤ L0 + 549 * (k + 1)) (0, l, ob, cap) ⟨Nat.zero_le _, hl, by simp only; omega⟩ ⟨rfl, rfl, rfl, rfl, rfl, rfl, trivial⟩ rfl ?_
  clear hl hL0 hm0
  rintro ⟨i, l, ob, cap⟩ ⟨hi, hl, hml⟩
  simp only at hi hl hml ⊢
  repeat (first | refine aops_end ?_ | refine aops_p tok rfl rfl rfl rfl ?_ | refine acode_seq ?_ | refine acode_region ?_)
  refine acode_id rfl (fun e => ?_) (fun e => ?_)
  · have hil : i < l.length := by omega
    refine acode_somed 3 rfl (by omega) fun c hc => ?_
    subst hc
    obtain ⟨p, hp⟩ : ∃ p, l[i]? = some p := ⟨l[i], List.getElem?_eq_getElem hil⟩
    have hpo := hl p (List.mem_of_getElem? hp)
    obtain ⟨r, a, f⟩ := p
    have hit := item_ld hp
    have hab : 0 ≤ a ∧ a ≤ 8 := by
      rcases hpo.1 with ⟨_, h | h⟩ | ⟨h4, h5, h6, h7⟩
      · simp only at h; omega
      · simp only at h; omega
      · have := fo.len _ (List.mem_of_getElem? (ruleAt_at h4 h5)); simp only at h6 h7 this; omega
    have hc0 := f3_cell (q := 0) hp rfl
    have hc1 := f3_cell (q := 1) hp rfl
    have hc2 := f3_cell (q := 2) hp rfl
    have hbn := fun s (h : behF g r a = (s, true)) (hs : 0 ≤ s) => beh_name fo h hs
    have hnx := fun s (h : behF g r a = (s, true)) => ptOk_next hpo h
    obtain ⟨⟨s, okb⟩, hbe⟩ : ∃ x, behF g r a = x := ⟨_, rfl⟩
    have hbc := fun M => behind_calls (g := g) (r := r) (a := a) M
    rw [hbe] at hbn hnx hbc
    repeat (first | refine acode_seq ?_ | refine acode_region ?_ | refine acode_block ?_ | refine acode_skip ?_ | refine then_n ?_ | refine block_n ?_)
    refine acode_drawT 12 mixed (by kernel_rfl) (by kernel_rfl) ?_
    repeat (refine seqT_p tok rfl rfl rfl rfl ?_)
    refine seqT_ixo tok rfl rfl rfl rfl (by omega) (by omega) rfl rfl rfl ?_
    repeat (refine seqT_p tok rfl rfl rfl rfl ?_)
    refine seqT_ld tok 0 (y := .agg [.int .i64 r, .int .i64 a]) rfl rfl rfl rfl (by rw [headed_eq]; exact hit) rfl rfl rfl ?_
    refine seqT_call _ Try.func95 rfl rfl rfl rfl (hbc _) rfl rfl rfl ?_
    repeat (refine seqT_p tok rfl rfl rfl rfl ?_)
    refine SeqT.done ?_
    refine aops_end ?_
    refine acode_seq ?_
    refine acode_region ?_
    repeat (refine aops_p tok rfl rfl rfl rfl ?_)
    refine aops_end ?_
    refine acode_adopt 13 3 rfl ?_
    refine acode_seq ?_
    refine acode_joinI (ι := List Ky × Option Nat × Nat) (fun q => [(1, .psl n (bools null)), (2, .psl k (allA all)), (3, .own (some c) l.length cap), (4, .pp (grC g)), (9, .int .i64 k), (10, .int .i64 i), (13, .own q.2.1 q.1.length q.2.2)]) (fun q => ⟨q.2.1, q.2.2 * 3, encs f3C q.1⟩ :: ⟨some c, cap * 3, encs f3C l⟩ :: M) (fun q => (∀ p ∈ q.1, ptOk g k p) ∧ q.1.length ≤ 2000000000000) ?_ ?_
    · by_cases hA : okb = true ∧ 0 ≤ s
      · obtain ⟨rfl, hs0⟩ := hA
        obtain ⟨n0, n1⟩ := hbn s rfl hs0
        have hnp := hnx s rfl
        repeat' (first | refine aops_end ?_ | refine aops_pbt tok rfl (by first | omega | decide) rfl rfl rfl ?_ | refine aops_p tok rfl rfl rfl rfl ?_ | refine acode_it rfl ?_ | refine acode_seq ?_ | refine acode_region ?_ | refine acode_block ?_)
        refine acode_loopS (ι := Nat × List Ky × Option Nat × Nat) (fun p => [(1, .psl n (bools null)), (2, .psl k (allA all)), (3, .own (some c) l.length cap), (4, .pp (grC g)), (9, .int .i64 k), (10, .int .i64 i), (11, .int .i64 s), (13, .own p.2.2.1 p.2.1.length p.2.2.2), (14, .int .i64 p.1)]) (fun p => ⟨p.2.2.1, p.2.2.2 * 3, encs f3C p.2.1⟩ :: ⟨some c, cap * 3, encs f3C l⟩ :: M) (fun p => g.rules.length - p.1) (fun p => p.1 ≤ g.rules.length ∧ (∀ q ∈ p.2.1, ptOk g k q) ∧ p.2.1.length ≤ p.1) (0, [], none, 0) ⟨Nat.zero_le _, by simp, by simp⟩ ⟨rfl, rfl, rfl, rfl, rfl, rfl, rfl, rfl, rfl, trivial⟩ rfl ?_
        rintro ⟨j, pm, mo, mc⟩ ⟨hj, hpm, hpml⟩
        simp only at hj hpm hpml ⊢
        repeat (first | refine aops_end ?_ | refine aops_p tok rfl rfl rfl rfl ?_ | refine acode_seq ?_ | refine acode_region ?_)
        refine acode_id rfl (fun e2 => ?_) (fun e2 => ?_)
        · have hjl : j < g.rules.length := by omega
          obtain ⟨rr, hr⟩ : ∃ rr, g.rules[j]? = some rr := ⟨g.rules[j], List.getElem?_eq_getElem hjl⟩
          repeat (first | refine aops_p tok rfl rfl rfl rfl ?_ | refine acode_seq ?_ | refine acode_region ?_ | refine acode_block ?_ | refine acode_skip ?_ | refine then_n ?_)
          refine aops_ix tok (ruC rr) rfl rfl rfl rfl (by omega) (by omega) (by simp [ruC]) (encs_at (e := ruC) (s := 3) (fun _ => rfl) (i := (j : Int).toNat) (by simpa using hr)) rfl rfl rfl ?_
          repeat' (first | refine aops_end ?_ | refine aops_a tok rfl (by omega) (by omega) rfl rfl rfl ?_ | (refine aops_pd tok rfl rfl rfl rfl ?_ ?_ <;> intro e_) | refine aops_p tok rfl rfl rfl rfl ?_ | refine acode_it rfl ?_ | refine acode_if rfl ?_ | refine acode_region ?_ | refine acode_skip ?_ | refine then_n ?_ | refine block_n ?_)
          · refine aops_litn tok rfl rfl rfl rfl rfl rfl rfl ?_
            refine aops_append tok 0 (m := 1) (ds := f3C ((j : Int), (0 : Int), (k : Int))) rfl rfl rfl (.inl rfl) rfl rfl (encs_len (e := f3C) (s := 3) (fun _ => rfl) pm) rfl rfl rfl (by show _ * 24 ≤ _; omega) (by omega) rfl rfl fun ob' cap' => ?_
            repeat (first | refine aops_put rfl ?_ | refine aops_end ?_ | refine aops_endb ?_ | refine aops_a tok rfl (by omega) (by omega) rfl rfl rfl ?_ | refine aops_p tok rfl rfl rfl rfl ?_ | refine acode_region ?_ | refine then_n ?_)
            refine ⟨(j + 1, pm ++ [((j : Int), (0 : Int), (k : Int))], ob', cap'), ⟨by simp only; omega, fun z hz => ?_, by simp only [List.length_append, List.length_singleton]; omega⟩, by simp only; omega, ⟨rfl, rfl, rfl, rfl, rfl, rfl, rfl, by rw [List.length_append]; rfl, rfl, trivial⟩, by simp only [encs_app]; simp [encs]⟩
            rcases List.mem_append.1 hz with h | h
            · exact hpm z h
            · rw [List.mem_singleton.1 h]
              exact ⟨.inr ⟨by simp only; omega, by simp only; omega, by simp only; omega, by simp only; omega⟩, by simp only; omega, by simp only; omega⟩
          · exact ⟨(j + 1, pm, mo, mc), ⟨by simp only; omega, hpm, by simp only; omega⟩, by simp only; omega, ⟨rfl, rfl, rfl, rfl, rfl, rfl, rfl, rfl, rfl, trivial⟩, rfl⟩
        · obtain rfl : j = g.rules.length := by omega
          refine acode_exit ?_
          repeat (first | refine exit_then ?_ | refine exit_here ?_ | refine then_n ?_)
          have hz := getD_at (l := null) (i := s.toNat) (by omega)
          generalize null.getD s.toNat false = z at *
          repeat (first | refine aops_p tok rfl rfl rfl rfl ?_ | refine acode_seq ?_ | refine acode_region ?_)
          refine aops_ix tok [A.bool z] rfl rfl rfl rfl hs0 (by omega) (by simp) (bools_at hz) rfl rfl rfl ?_
          cases z with
          | false =>
            repeat' (first | refine aops_end ?_ | refine aops_p tok rfl rfl rfl rfl ?_ | refine acode_if rfl ?_ | refine acode_skip ?_ | refine then_n ?_ | refine block_n ?_)
            exact ⟨(pm, mo, mc), ⟨hpm, by simp only; omega⟩, ⟨rfl, rfl, rfl, rfl, rfl, rfl, rfl, trivial⟩, rfl⟩
          | true =>
            repeat' (first | refine aops_end ?_ | refine aops_p tok rfl rfl rfl rfl ?_ | refine acode_it rfl ?_)
            refine acode_drawP [⟨some c, cap * 3, encs f3C l⟩] 23 [0, 1, 2, 3, 4, 5, 6, 7, 8, 9, 10, 11, 12, 13, 14, 15, 16, 17, 18, 19, 20, 21, 22] [22] mixed (by kernel_rfl) (by kernel_rfl) rfl ?_
            repeat (refine seqO_p tok rfl rfl rfl rfl rfl ?_)
            refine seqO_ixo tok rfl rfl rfl rfl rfl (by omega) (by omega) rfl rfl rfl ?_
            repeat (refine seqO_p tok rfl rfl rfl rfl rfl ?_)
            refine seqO_ld tok 0 (y := .int .i64 r) rfl rfl rfl rfl rfl (by simp) (by rw [headed_eq]; exact hc0) rfl rfl rfl ?_
            repeat (refine seqO_p tok rfl rfl rfl rfl rfl ?_)
            refine seqO_ixo tok rfl rfl rfl rfl rfl (by omega) (by omega) rfl rfl rfl ?_
            repeat (refine seqO_p tok rfl rfl rfl rfl rfl ?_)
            refine seqO_ld tok 0 (y := .int .i64 a) rfl rfl rfl rfl rfl (by simp) (by rw [headed_eq]; exact hc1) rfl rfl rfl ?_
            repeat (first | refine seqO_a tok rfl rfl (by omega) (by omega) rfl rfl rfl ?_ | refine seqO_p tok rfl rfl rfl rfl rfl ?_)
            refine seqO_ixo tok rfl rfl rfl rfl rfl (by omega) (by omega) rfl rfl rfl ?_
            repeat (refine seqO_p tok rfl rfl rfl rfl rfl ?_)
            refine seqO_ld tok 0 (y := .int .i64 f) rfl rfl rfl rfl rfl (by simp) (by rw [headed_eq]; exact hc2) rfl rfl rfl ?_
            repeat (refine seqO_p tok rfl rfl rfl rfl rfl ?_)
            refine seqO_lit tok rfl rfl rfl rfl rfl rfl rfl rfl rfl ?_
            refine seqO_app tok 0 (m := 1) (ds := f3C (r, a + 1, f)) rfl rfl rfl rfl (.inl rfl) rfl rfl (encs_len (e := f3C) (s := 3) (fun _ => rfl) pm) rfl rfl rfl (by show _ * 24 ≤ _; omega) (by omega) (by intro y o ho; simp at ho ⊢; simp [ho]) rfl rfl rfl fun ob' cap' => ?_
            refine SeqO.done ?_
            repeat (first | refine aops_endb ?_ | refine aops_p tok rfl rfl rfl rfl ?_ | refine then_n ?_)
            refine ⟨(pm ++ [(r, a + 1, f)], ob', cap'), ⟨fun z hz => ?_, by simp only [List.length_append, List.length_singleton]; omega⟩, ⟨rfl, rfl, rfl, rfl, rfl, rfl, by rw [List.length_append]; rfl, trivial⟩, by simp only [encs_app]; simp [encs]⟩
            rcases List.mem_append.1 hz with h | h
            · exact hpm z h
            · rw [List.mem_singleton.1 h]; exact hnp
      · by_cases hB : okb = false ∧ 0 ≤ r ∧ f < k
        · obtain ⟨rfl, hr0, hfk⟩ := hB
          repeat' (first | refine aops_end ?_ | refine aops_o rfl rfl rfl ?_ | refine aops_pbf tok rfl (by first | omega | decide) rfl rfl rfl ?_ | refine aops_p tok rfl rfl rfl rfl ?_ | refine acode_if rfl ?_ | refine acode_seq ?_ | refine acode_region ?_ | refine acode_block ?_)
          have hrlt : r < g.rules.length := by
            rcases hpo.1 with ⟨h, _⟩ | ⟨_, h, _⟩
            · simp only at h; omega
            · exact h
          have hf0 : 0 ≤ f := hpo.2.1
          obtain ⟨x, hx⟩ : ∃ x, all[f.toNat]? = some x := ⟨all[f.toNat]'(by omega), List.getElem?_eq_getElem (by omega)⟩
          obtain ⟨hxl, hxo⟩ := hall _ _ hx
          refine aops_ixo tok rfl rfl rfl rfl (by omega) (by omega) rfl rfl rfl ?_
          repeat (refine aops_p tok rfl rfl rfl rfl ?_)
          refine aops_ld tok 1 (y := .int .i64 r) rfl rfl rfl rfl (by rw [headed_eq]; exact hc0) rfl rfl rfl ?_
          repeat' (first | refine aops_pbt tok rfl (by first | omega | decide) rfl rfl rfl ?_ | refine aops_p tok rfl rfl rfl rfl ?_)
          refine aops_ixo tok rfl rfl rfl rfl (by omega) (by omega) rfl rfl rfl ?_
          repeat (refine aops_p tok rfl rfl rfl rfl ?_)
          refine aops_ld tok 1 (y := .int .i64 f) rfl rfl rfl rfl (by rw [headed_eq]; exact hc2) rfl rfl rfl ?_
          repeat' (first | refine aops_end ?_ | refine aops_pbt tok rfl (by first | omega | decide) rfl rfl rfl ?_ | refine aops_p tok rfl rfl rfl rfl ?_ | refine acode_it rfl ?_ | refine acode_seq ?_)
          refine acode_drawT 11 mixed (by kernel_rfl) (by kernel_rfl) ?_
          repeat (refine seqT_p tok rfl rfl rfl rfl ?_)
          refine seqT_ixo tok rfl rfl rfl rfl (by omega) (by omega) rfl rfl rfl ?_
          repeat (refine seqT_p tok rfl rfl rfl rfl ?_)
          refine seqT_ld tok 1 (y := .int .i64 r) rfl rfl rfl rfl (by rw [headed_eq]; exact hc0) rfl rfl rfl ?_
          skip
          refine seqT_ix tok (ruC (ruleAt g r)) rfl rfl rfl rfl hr0 hrlt (by simp [ruC]) (encs_at (e := ruC) (s := 3) (fun _ => rfl) (ruleAt_at hr0 hrlt)) rfl rfl rfl ?_
          repeat (refine seqT_p tok rfl rfl rfl rfl ?_)
          refine SeqT.done ?_
          repeat (first | refine aops_end ?_ | refine aops_p tok rfl rfl rfl rfl ?_ | refine acode_seq ?_ | refine acode_region ?_)
          refine aops_ixo tok rfl rfl rfl rfl (by omega) (by omega) rfl rfl rfl ?_
          repeat (refine aops_p tok rfl rfl rfl rfl ?_)
          refine aops_ld tok 1 (y := .int .i64 f) rfl rfl rfl rfl (by rw [headed_eq]; exact hc2) rfl rfl rfl ?_
          skip
          refine aops_ix tok [A.psl x.length (encs f3C x)] rfl rfl rfl rfl hf0 (by omega) (by simp) (allA_at hx) rfl rfl rfl ?_
          repeat (first | refine aops_end ?_ | refine aops_p tok rfl rfl rfl rfl ?_ | refine acode_seq ?_ | refine acode_region ?_ | refine acode_block ?_)
          generalize (ruleAt g r).left = left at *
          refine acode_loopS (ι := Nat × List Ky × Option Nat × Nat) (fun p => [(1, .psl n (bools null)), (2, .psl k (allA all)), (3, .own (some c) l.length cap), (4, .pp (grC g)), (9, .int .i64 k), (10, .int .i64 i), (13, .own p.2.2.1 p.2.1.length p.2.2.2), (15, .int .i64 left), (16, .psl x.length (encs f3C x)), (17, .int .i64 p.1)]) (fun p => ⟨p.2.2.1, p.2.2.2 * 3, encs f3C p.2.1⟩ :: ⟨some c, cap * 3, encs f3C l⟩ :: M) (fun p => x.length - p.1) (fun p => p.1 ≤ x.length ∧ (∀ q ∈ p.2.1, ptOk g k q) ∧ p.2.1.length ≤ p.1) (0, [], none, 0) ⟨Nat.zero_le _, by simp, by simp⟩ ⟨rfl, rfl, rfl, rfl, rfl, rfl, rfl, rfl, rfl, rfl, trivial⟩ rfl ?_
          rintro ⟨j, pm, mo, mc⟩ ⟨hj, hpm, hpml⟩
          simp only at hj hpm hpml ⊢
          repeat (first | refine aops_end ?_ | refine aops_p tok rfl rfl rfl rfl ?_ | refine acode_seq ?_ | refine acode_region ?_)
          refine acode_id rfl (fun e2 => ?_) (fun e2 => ?_)
          · have hjl : j < x.length := by omega
            obtain ⟨q, hq⟩ : ∃ q, x[j]? = some q := ⟨x[j], List.getElem?_eq_getElem hjl⟩
            have hqo := hxo q (List.mem_of_getElem? hq)
            obtain ⟨r2, a2, f2⟩ := q
            have hab2 : 0 ≤ a2 ∧ a2 ≤ 8 := by
              rcases hqo.1 with ⟨_, h | h⟩ | ⟨h4, h5, h6, h7⟩
              · simp only at h; omega
              · simp only at h; omega
              · have := fo.len _ (List.mem_of_getElem? (ruleAt_at h4 h5)); simp only at h6 h7 this; omega
            have hab3 : 0 ≤ (r2, a2, f2).2.1 ∧ (r2, a2, f2).2.1 ≤ 8 := hab2
            have hqa := encs_at (e := f3C) (s := 3) (fun _ => rfl) (i := (j : Int).toNat) (by simpa using hq)
            have hnx2 := fun s (h : behF g r2 a2 = (s, true)) => ptOk_next hqo h
            have hbc2 := fun M => behind_calls (g := g) (r := r2) (a := a2) M
            obtain ⟨⟨t, is⟩, hbe2⟩ : ∃ x, behF g r2 a2 = x := ⟨_, rfl⟩
            rw [hbe2] at hnx2 hbc2
            repeat (first | refine acode_seq ?_ | refine acode_block ?_ | refine acode_skip ?_ | refine then_n ?_)
            refine acode_drawT 12 mixed (by kernel_rfl) (by kernel_rfl) ?_
            repeat (refine seqT_p tok rfl rfl rfl rfl ?_)
            refine seqT_ix tok (f3C (r2, a2, f2)) rfl rfl rfl rfl (by omega) (by omega) (by simp [f3C]) hqa rfl rfl rfl ?_
            repeat (refine seqT_p tok rfl rfl rfl rfl ?_)
            refine seqT_call _ Try.func95 rfl rfl rfl rfl (hbc2 _) rfl rfl rfl ?_
            repeat (refine seqT_p tok rfl rfl rfl rfl ?_)
            refine SeqT.done ?_
            cases is with
            | false =>
              repeat' (first | refine aops_end ?_ | refine aops_o rfl rfl rfl ?_ | refine aops_a tok rfl (by omega) (by omega) rfl rfl rfl ?_ | refine aops_p tok rfl rfl rfl rfl ?_ | refine acode_if rfl ?_ | refine acode_seq ?_ | refine acode_region ?_ | refine acode_skip ?_ | refine then_n ?_ | refine block_n ?_)
              exact ⟨(j + 1, pm, mo, mc), ⟨by simp only; omega, hpm, by simp only; omega⟩, by simp only; omega, ⟨rfl, rfl, rfl, rfl, rfl, rfl, rfl, rfl, rfl, rfl, trivial⟩, rfl⟩
            | true =>
              have hnp2 := hnx2 t rfl
              repeat' (first | refine aops_end ?_ | refine aops_a tok rfl (by omega) (by omega) rfl rfl rfl ?_ | (refine aops_pd tok rfl rfl rfl rfl ?_ ?_ <;> intro e_) | refine aops_p tok rfl rfl rfl rfl ?_ | refine acode_it rfl ?_ | refine acode_if rfl ?_ | refine acode_seq ?_ | refine acode_region ?_ | refine acode_skip ?_ | refine then_n ?_ | refine block_n ?_)
              · refine acode_drawP [] 23 [0, 1, 2, 3, 4, 5, 6, 7, 8, 9, 10, 11, 12, 13, 14, 15, 16, 17, 18, 19, 20, 21, 22] [22] mixed (by kernel_rfl) (by kernel_rfl) rfl ?_
                repeat (refine seqO_p tok rfl rfl rfl rfl rfl ?_)
                refine seqO_ix tok (f3C (r2, a2, f2)) rfl rfl rfl rfl rfl (by omega) (by omega) (by simp [f3C]) hqa rfl rfl rfl ?_
                repeat (refine seqO_p tok rfl rfl rfl rfl rfl ?_)
                refine seqO_ix tok (f3C (r2, a2, f2)) rfl rfl rfl rfl rfl (by omega) (by omega) (by simp [f3C]) hqa rfl rfl rfl ?_
                repeat (first | refine seqO_a tok rfl rfl (by omega) (by omega) rfl rfl rfl ?_ | refine seqO_p tok rfl rfl rfl rfl rfl ?_)
                refine seqO_ix tok (f3C (r2, a2, f2)) rfl rfl rfl rfl rfl (by omega) (by omega) (by simp [f3C]) hqa rfl rfl rfl ?_
                repeat (refine seqO_p tok rfl rfl rfl rfl rfl ?_)
                refine seqO_lit tok rfl rfl rfl rfl rfl rfl rfl rfl rfl ?_
                refine seqO_app tok 0 (m := 1) (ds := f3C (r2, a2 + 1, f2)) rfl rfl rfl rfl (.inl rfl) rfl rfl (encs_len (e := f3C) (s := 3) (fun _ => rfl) pm) rfl rfl rfl (by show _ * 24 ≤ _; omega) (by omega) (by intro y o ho; simp at ho) rfl rfl rfl fun ob' cap' => ?_
                refine SeqO.done ?_
                repeat (first | refine aops_end ?_ | refine aops_endb ?_ | refine aops_a tok rfl (by omega) (by omega) rfl rfl rfl ?_ | refine aops_p tok rfl rfl rfl rfl ?_ | refine acode_region ?_ | refine then_n ?_)
                refine ⟨(j + 1, pm ++ [(r2, a2 + 1, f2)], ob', cap'), ⟨by simp only; omega, fun z hz => ?_, by simp only [List.length_append, List.length_singleton]; omega⟩, by simp only; omega, ⟨rfl, rfl, rfl, rfl, rfl, rfl, by rw [List.length_append]; rfl, rfl, rfl, rfl, trivial⟩, by simp only [encs_app]; simp [encs]⟩
                rcases List.mem_append.1 hz with h | h
                · exact hpm z h
                · rw [List.mem_singleton.1 h]; exact ptOk_mono (by omega) hnp2
              · exact ⟨(j + 1, pm, mo, mc), ⟨by simp only; omega, hpm, by simp only; omega⟩, by simp only; omega, ⟨rfl, rfl, rfl, rfl, rfl, rfl, rfl, rfl, rfl, rfl, trivial⟩, rfl⟩
          · obtain rfl : j = x.length := by omega
            refine acode_exit ?_
            repeat (first | refine exit_then ?_ | refine exit_here ?_ | refine then_n ?_ | refine block_n ?_)
            exact ⟨(pm, mo, mc), ⟨hpm, by simp only; omega⟩, ⟨rfl, rfl, rfl, rfl, rfl, rfl, rfl, trivial⟩, rfl⟩
        · cases okb with
          | true =>
            have hsn : ¬ 0 ≤ s := fun h => hA ⟨rfl, h⟩
            repeat' (first | refine aops_end ?_ | refine aops_o rfl rfl rfl ?_ | refine aops_pbf tok rfl (by first | omega | decide) rfl rfl rfl ?_ | refine aops_p tok rfl rfl rfl rfl ?_ | refine acode_if rfl ?_ | refine acode_seq ?_ | refine acode_region ?_ | refine acode_block ?_ | refine acode_skip ?_ | refine then_n ?_ | refine block_n ?_)
            exact ⟨([], none, 0), ⟨by simp, by simp⟩, ⟨rfl, rfl, rfl, rfl, rfl, rfl, rfl, trivial⟩, rfl⟩
          | false =>
            repeat' (first | refine aops_end ?_ | refine aops_o rfl rfl rfl ?_ | refine aops_p tok rfl rfl rfl rfl ?_ | refine acode_if rfl ?_ | refine acode_seq ?_ | refine acode_region ?_ | refine acode_block ?_)
            refine aops_ixo tok rfl rfl rfl rfl (by omega) (by omega) rfl rfl rfl ?_
            repeat (refine aops_p tok rfl rfl rfl rfl ?_)
            refine aops_ld tok 1 (y := .int .i64 r) rfl rfl rfl rfl (by rw [headed_eq]; exact hc0) rfl rfl rfl ?_
            by_cases hr0 : 0 ≤ r
            · have hfk : ¬ f < k := fun h => hB ⟨rfl, hr0, h⟩
              repeat' (first | refine aops_pbt tok rfl (by first | omega | decide) rfl rfl rfl ?_ | refine aops_p tok rfl rfl rfl rfl ?_)
              refine aops_ixo tok rfl rfl rfl rfl (by omega) (by omega) rfl rfl rfl ?_
              repeat (refine aops_p tok rfl rfl rfl rfl ?_)
              refine aops_ld tok 1 (y := .int .i64 f) rfl rfl rfl rfl (by rw [headed_eq]; exact hc2) rfl rfl rfl ?_
              repeat' (first | refine aops_end ?_ | refine aops_pbf tok rfl (by first | omega | decide) rfl rfl rfl ?_ | refine aops_p tok rfl rfl rfl rfl ?_ | refine acode_if rfl ?_ | refine acode_skip ?_ | refine then_n ?_ | refine block_n ?_)
              exact ⟨([], none, 0), ⟨by simp, by simp⟩, ⟨rfl, rfl, rfl, rfl, rfl, rfl, rfl, trivial⟩, rfl⟩
            · repeat' (first | refine aops_end ?_ | refine aops_o rfl rfl rfl ?_ | refine aops_pbf tok rfl (by first | omega | decide) rfl rfl rfl ?_ | refine aops_p tok rfl rfl rfl rfl ?_ | refine acode_if rfl ?_ | refine acode_skip ?_ | refine then_n ?_ | refine block_n ?_)
              exact ⟨([], none, 0), ⟨by simp, by simp⟩, ⟨rfl, rfl, rfl, rfl, rfl, rfl, rfl, trivial⟩, rfl⟩
    rintro ⟨pm, mo, mc⟩ ⟨hpm, hpml⟩
    simp only at hpm hpml ⊢
    repeat (first | refine aops_end ?_ | refine aops_p tok rfl rfl rfl rfl ?_ | refine acode_seq ?_ | refine acode_region ?_ | refine acode_block ?_)
    refine acode_loopS (ι := Nat × List Ky × Option Nat × Nat) (fun p => [(1, .psl n (bools null)), (2, .psl k (allA all)), (3, .own p.2.2.1 p.2.1.length p.2.2.2), (4, .pp (grC g)), (9, .int .i64 k), (10, .int .i64 i), (13, .own mo pm.length mc), (20, .int .i64 p.1)]) (fun p => ⟨mo, mc * 3, encs f3C pm⟩ :: ⟨p.2.2.1, p.2.2.2 * 3, encs f3C p.2.1⟩ :: M) (fun p => pm.length - p.1) (fun p => p.1 ≤ pm.length ∧ (∀ q ∈ p.2.1, ptOk g k q) ∧ p.2.1.length + missP k p.2.1 ≤ l.length + missP k l ∧ l.length ≤ p.2.1.length) (0, l, some c, cap) ⟨Nat.zero_le _, hl, Nat.le_refl _, Nat.le_refl _⟩ ⟨rfl, rfl, rfl, rfl, rfl, rfl, rfl, rfl, trivial⟩ rfl ?_
    rintro ⟨j, l2, ob2, cap2⟩ ⟨hj, hl2, hm2, hle2⟩
    simp only at hj hl2 hm2 hle2 ⊢
    repeat (first | refine aops_end ?_ | refine aops_p tok rfl rfl rfl rfl ?_ | refine acode_seq ?_ | refine acode_region ?_)
    refine acode_id rfl (fun e2 => ?_) (fun e2 => ?_)
    · have hjl : j < pm.length := by omega
      refine acode_somed 3 rfl (by omega) fun c2 hc2 => ?_
      subst hc2
      refine acode_somed 13 rfl (by omega) fun c3 hc3 => ?_
      subst hc3
      obtain ⟨q, hq⟩ : ∃ q, pm[j]? = some q := ⟨pm[j], List.getElem?_eq_getElem hjl⟩
      have hqo := hpm q (List.mem_of_getElem? hq)
      have hll : l2.length ≤ 1000000000000000 := by omega
      have hqld : (bif Nat.ble (j * 3 + 3) (encs f3C pm).length then some (A.agg (((encs f3C pm).drop (j * 3)).take 3)) else none) = some (.agg (f3C q)) := by
        obtain ⟨t, ht⟩ := f3_cut hq
        have h1 : Nat.ble (j * 3 + 3) (encs f3C pm).length = true := by rw [encs_len (e := f3C) (s := 3) (fun _ => rfl)]; simp; omega
        rw [h1, ← ht]; rfl
      repeat (first | refine aops_p tok rfl rfl rfl rfl ?_ | refine acode_seq ?_ | refine acode_region ?_ | refine acode_block ?_ | refine acode_skip ?_ | refine then_n ?_)
      refine aops_ixo tok rfl rfl rfl rfl (by omega) (by omega) rfl rfl rfl ?_
      refine aops_ld tok 0 (y := .agg (f3C q)) rfl rfl rfl rfl (by rw [headed_eq]; exact hqld) rfl rfl rfl ?_
      refine aops_callx Try.func107 rfl rfl rfl rfl (acalls_view (.cons (.own (sz := 3) (.tail _ (.head _)) rfl (encs_len (e := f3C) (s := 3) (fun _ => rfl) l2) (by decide) (VwL.rfl' _)) (.cons (.refl _) .nil)) (rhas_calls (l := l2) (p := q) (by omega) []) rfl) rfl rfl rfl ?_
      by_cases hmem : q ∈ l2
      · rw [decide_eq_true hmem]
        repeat' (first | refine aops_end ?_ | refine aops_a tok rfl (by omega) (by omega) rfl rfl rfl ?_ | refine aops_p tok rfl rfl rfl rfl ?_ | refine acode_if rfl ?_ | refine acode_region ?_ | refine acode_skip ?_ | refine then_n ?_ | refine block_n ?_)
        exact ⟨(j + 1, l2, some c2, cap2), ⟨by simp only; omega, hl2, hm2, hle2⟩, by simp only; omega, ⟨rfl, rfl, rfl, rfl, rfl, rfl, rfl, rfl, trivial⟩, rfl⟩
      · rw [decide_eq_false hmem]
        have hlt := missP_app fo hqo hmem
        repeat' (first | refine aops_end ?_ | refine aops_p tok rfl rfl rfl rfl ?_ | refine acode_it rfl ?_ | refine acode_region ?_)
        refine aops_ixo tok rfl rfl rfl rfl (by omega) (by omega) rfl rfl rfl ?_
        refine aops_ld tok 0 (y := .agg (f3C q)) rfl rfl rfl rfl (by rw [headed_eq]; exact hqld) rfl rfl rfl ?_
        refine aops_litn tok rfl rfl rfl rfl rfl rfl rfl ?_
        refine aops_append tok 1 (m := 1) (ds := f3C q) rfl rfl rfl (.inl rfl) rfl rfl (encs_len (e := f3C) (s := 3) (fun _ => rfl) l2) rfl rfl rfl (by show _ * 24 ≤ _; omega) (by omega) rfl rfl fun ob' cap' => ?_
        repeat (first | refine aops_put rfl ?_ | refine aops_end ?_ | refine aops_endb ?_ | refine aops_a tok rfl (by omega) (by omega) rfl rfl rfl ?_ | refine aops_p tok rfl rfl rfl rfl ?_ | refine acode_region ?_ | refine then_n ?_)
        exact ⟨(j + 1, l2 ++ [q], ob', cap'), ⟨by simp only; omega, fun z hz => by rcases List.mem_append.1 hz with h | h; exact hl2 z h; rw [List.mem_singleton.1 h]; exact hqo, by simp only [List.length_append, List.length_singleton]; omega, by simp only [List.length_append, List.length_singleton]; omega⟩, by simp only; omega, ⟨rfl, rfl, by rw [List.length_append]; rfl, rfl, rfl, rfl, rfl, rfl, trivial⟩, by simp only [encs_app]; simp [encs]⟩
    · obtain rfl : j = pm.length := by omega
      refine acode_exit ?_
      repeat (first | refine exit_then ?_ | refine exit_here ?_ | refine then_n ?_ | refine block_n ?_)
      refine acode_drop0 ?_
      repeat (first | refine aops_end ?_ | refine aops_a tok rfl (by omega) (by omega) rfl rfl rfl ?_ | refine aops_p tok rfl rfl rfl rfl ?_ | refine acode_region ?_)
      exact ⟨(i + 1, l2, ob2, cap2), ⟨by simp only; omega, hl2, by simp only; omega⟩, by simp only; omega, ⟨rfl, rfl, rfl, rfl, rfl, rfl, trivial⟩, rfl⟩
  · obtain rfl : i = l.length := by omega
    refine acode_exit ?_
    repeat (first | refine exit_then ?_ | refine exit_here ?_ | refine then_n ?_)
    repeat (first | refine aops_end ?_ | refine aops_p tok rfl rfl rfl rfl ?_ | refine acode_seq ?_ | refine acode_region ?_)
    refine acode_ret ?_
    skip
    exact ⟨_, ⟨l, ob, cap, rfl, rfl, hl, by omega⟩, resOf_tmp rfl⟩
end Go.Proofs.Ytbnhmioijeagiaa.Ab
/- Chapter 17's reference, walk and Prefix: the walk. No condition. -/
set_option linter.unusedVariables false
set_option linter.unusedSimpArgs false
namespace Go.Proofs.Ytbnhmioijeagiaa.Ab
attribute [local irreducible] thenA inBlockA ACode AOps put IntKind.wrap

theorem looseL_f3 : ∀ l : List Ky, looseL (encs f3C l) = true
  | [] => rfl
  | x :: l => by
    have := looseL_f3 l
    simp only [encs, List.flatMap_cons, f3C, List.cons_append, List.nil_append, looseL, looseA, Bool.true_and] at this ⊢
    exact this
theorem allA_len (all : List (List Ky)) : (allA all).length = all.length := by simp [allA]
def FillR (g : Gr) (k L0 : Nat) (V : List Ob) : A → List Ob → Prop := fun r M' => ∃ l' ob' cap', r = .own ob' l'.length cap' ∧ M' = ⟨ob', cap' * 3, encs f3C l'⟩ :: V ∧ (∀ p ∈ l', ptOk g k p) ∧ l'.length ≤ L0 + 549 * (k + 1)
theorem fillV_calls {g : Gr} {n k L0 : Nat} {null : List Bool} {all : List (List Ky)} (fo : FormOk g n) (hn : g.names = n) (hnl : null.length = n) (hal : all.length = k) (hk : k ≤ 2001) (hall : ∀ i x, all[i]? = some x → x.length ≤ 1000000000000 ∧ ∀ p ∈ x, ptOk g i p) {l : List Ky} {ob : Option Nat} {cap : Nat} (hl : ∀ p ∈ l, ptOk g k p) (hL0 : l.length = L0) (hL1 : L0 ≤ 1000000000000) (V : List Ob) {x : A} (hx : Vw V x (.psl k (allA all))) :
    ACalls Try.prog 94 [grA g, .psl n (bools null), x, .own ob l.length cap] (⟨ob, cap * 3, encs f3C l⟩ :: V) (FillR g k L0 V) := by
  refine (acalls_part (W := [⟨ob, cap * 3, encs f3C l⟩]) (V := V) (.cons (.refl _) (.cons (.refl _) (.cons hx (.cons (.refl _) .nil)))) (fill_calls fo hn hnl hal hk hall hl hL0 hL1 []) ?_).mono ?_
  · rintro r M' ⟨l', ob', cap', rfl, rfl, h1, h2⟩
    refine ⟨rfl, fun o ho => ?_⟩
    rw [List.mem_singleton.1 ho]
    exact looseL_f3 l'
  · rintro r M' ⟨M1, ⟨l', ob', cap', rfl, rfl, h1, h2⟩, rfl⟩
    exact ⟨l', ob', cap', rfl, rfl, h1, h2⟩

set_option maxHeartbeats 32000000 in
theorem walk_calls {g : Gr} {n : Nat} {ks : List Int} (hg : GrOk g) (hform : (formF g).2 = 0) (fo : FormOk g n) (hn : g.names = n) (hks : ks.length ≤ 2000) (M : List Ob) :
    ACalls Try.prog 72 [grA g, .psl ks.length (ints ks)] M (fun r M' => ∃ all ob cap, r = .own ob all.length cap ∧ M' = ⟨ob, cap * 1, allA all⟩ :: M ∧ all.length ≤ 3000) := by
  have hrl := fo.rl
  have hn1 := fo.n1
  refine acalls_of_code 99 Try.func72 rfl rfl rfl ?_
  repeat (first | refine acode_seq ?_ | refine acode_region ?_)
  refine aops_boxf rfl rfl rfl rfl rfl rfl rfl ?_
  repeat (first | refine aops_end ?_ | refine aops_p tok rfl rfl rfl rfl ?_ | refine acode_seq ?_ | refine acode_region ?_)
  refine aops_callx Try.func70 rfl rfl rfl rfl (rnullable_calls hg hform hn (by omega) fo.left fo.sym _) rfl rfl rfl ?_
  have hnl := nullF_len g n
  generalize nullF g n = null at *
  repeat (refine aops_p tok rfl rfl rfl rfl ?_)
  refine aops_end ?_
  refine acode_seq ?_
  refine acode_region ?_
  repeat (refine aops_p tok rfl rfl rfl rfl ?_)
  refine aops_end ?_
  refine acode_adopt 6 1 rfl ?_
  repeat (first | refine aops_p tok rfl rfl rfl rfl ?_ | refine acode_seq ?_ | refine acode_region ?_)
  refine aops_lito tok rfl rfl rfl rfl rfl rfl rfl fun lb => ?_
  refine aops_call Try.func94 rfl rfl rfl rfl (fillV_calls (l := [((-1 : Int), (0 : Int), (0 : Int))]) (ob := some lb) (cap := 1) (k := 0) (L0 := 1) (all := []) fo hn hnl rfl (by omega) (fun i x h => by simp at h) (fun p hp => by rw [List.mem_singleton.1 hp]; exact ⟨.inl ⟨rfl, .inl rfl⟩, by simp, by simp⟩) rfl (by omega) _ .nils) rfl rfl ?_
  rintro y M1 ⟨l1, ob1, cap1, rfl, rfl, hl1, hl2⟩
  refine aops_put rfl ?_
  refine aops_pub0 21 3 rfl rfl (encs_len (e := f3C) (s := 3) (fun _ => rfl) l1) rfl ?_
  refine aops_litn tok rfl rfl rfl rfl rfl rfl rfl ?_
  refine aops_append tok 0 (m := 1) (ds := allA [l1]) rfl rfl rfl (.inl rfl) rfl rfl rfl rfl rfl rfl (by decide) (by decide) rfl rfl fun ob0 cap0 => ?_
  repeat (first | refine aops_put rfl ?_ | refine aops_end ?_ | refine aops_p tok rfl rfl rfl rfl ?_ | refine acode_seq ?_ | refine acode_region ?_ | refine acode_block ?_)
  refine acode_loopS (ι := Nat × List (List Ky) × Option Nat × Nat) (fun p => [(1, .psl ks.length (ints ks)), (2, .pp (grC g)), (5, .psl n (bools null)), (6, .own p.2.2.1 p.2.1.length p.2.2.2), (7, .int .i64 p.1)]) (fun p => ⟨p.2.2.1, p.2.2.2 * 1, allA p.2.1⟩ :: M) (fun p => ks.length - p.1) (fun p => p.1 ≤ ks.length ∧ p.2.1.length = p.1 + 1 ∧ ∀ i x, p.2.1[i]? = some x → x.length ≤ (i + 1) * 1100000 ∧ ∀ q ∈ x, ptOk g i q) (0, [l1], ob0, cap0) ⟨Nat.zero_le _, rfl, fun i x h => ?_⟩ ⟨rfl, rfl, rfl, rfl, rfl, trivial⟩ rfl ?_
  · obtain ⟨h1, h2⟩ := List.getElem?_eq_some_iff.1 h
    have hi : i = 0 := by simp at h1; exact h1
    subst hi
    simp at h2
    subst h2
    exact ⟨by omega, hl1⟩
  rintro ⟨i, all, ob, cap⟩ ⟨hi, hal, hall⟩
  simp only at hi hal hall ⊢
  repeat (first | refine aops_end ?_ | refine aops_p tok rfl rfl rfl rfl ?_ | refine acode_seq ?_ | refine acode_region ?_)
  refine acode_id rfl (fun e => ?_) (fun e => ?_)
  · have hil : i < ks.length := by omega
    refine acode_somed 6 rfl (by omega) fun c hc => ?_
    subst hc
    obtain ⟨x, hx⟩ : ∃ x, all[i]? = some x := ⟨all[i]'(by omega), List.getElem?_eq_getElem (by omega)⟩
    obtain ⟨hxl, hxo⟩ := hall i x hx
    have hxl2 : x.length ≤ 2300000000 := by
      have : (i + 1) * 1100000 ≤ 2001 * 1100000 := Nat.mul_le_mul_right _ (by omega)
      omega
    have hxa : (allA all)[i * 1]? = some (A.psl x.length (encs f3C x)) := by rw [Nat.mul_one]; simp [allA, hx]
    obtain ⟨kv, hkv⟩ : ∃ kv, ks[i]? = some kv := ⟨ks[i], List.getElem?_eq_getElem hil⟩
    repeat (first | refine acode_seq ?_ | refine acode_region ?_ | refine acode_block ?_ | refine acode_skip ?_ | refine then_n ?_ | refine block_n ?_)
    repeat (refine aops_p tok rfl rfl rfl rfl ?_)
    refine aops_end ?_
    refine acode_adopt 8 3 rfl ?_
    repeat (first | refine aops_p tok rfl rfl rfl rfl ?_ | refine acode_seq ?_ | refine acode_region ?_)
    refine aops_ixo tok rfl rfl rfl rfl (by omega) (by omega) rfl rfl rfl ?_
    refine aops_ld tok 1 (y := .psl x.length (encs f3C x)) rfl rfl rfl rfl (by rw [headed_eq]; exact hxa) rfl rfl rfl ?_
    repeat (first | refine aops_end ?_ | refine aops_p tok rfl rfl rfl rfl ?_ | refine acode_seq ?_ | refine acode_region ?_ | refine acode_block ?_)
    refine acode_loopS (ι := Nat × List Ky × Option Nat × Nat) (fun p => [(1, .psl ks.length (ints ks)), (2, .pp (grC g)), (5, .psl n (bools null)), (6, .own (some c) all.length cap), (7, .int .i64 i), (8, .own p.2.2.1 p.2.1.length p.2.2.2), (9, .psl x.length (encs f3C x)), (10, .int .i64 p.1)]) (fun p => ⟨p.2.2.1, p.2.2.2 * 3, encs f3C p.2.1⟩ :: ⟨some c, cap * 1, allA all⟩ :: M) (fun p => x.length - p.1) (fun p => p.1 ≤ x.length ∧ (∀ q ∈ p.2.1, ptOk g (i + 1) q) ∧ p.2.1.length ≤ p.1) (0, [], none, 0) ⟨Nat.zero_le _, by simp, by simp⟩ ⟨rfl, rfl, rfl, rfl, rfl, rfl, rfl, rfl, trivial⟩ rfl ?_
    rintro ⟨j, pm, mo, mc⟩ ⟨hj, hpm, hpml⟩
    simp only at hj hpm hpml ⊢
    repeat (first | refine aops_end ?_ | refine aops_p tok rfl rfl rfl rfl ?_ | refine acode_seq ?_ | refine acode_region ?_)
    refine acode_id rfl (fun e2 => ?_) (fun e2 => ?_)
    · have hjl : j < x.length := by omega
      obtain ⟨q, hq⟩ : ∃ q, x[j]? = some q := ⟨x[j], List.getElem?_eq_getElem hjl⟩
      have hqo := hxo q (List.mem_of_getElem? hq)
      obtain ⟨r2, a2, f2⟩ := q
      have hab2 : 0 ≤ a2 ∧ a2 ≤ 8 := by
        rcases hqo.1 with ⟨_, h | h⟩ | ⟨h4, h5, h6, h7⟩
        · simp only at h; omega
        · simp only at h; omega
        · have := fo.len _ (List.mem_of_getElem? (ruleAt_at h4 h5)); simp only at h6 h7 this; omega
      have hab3 : 0 ≤ (r2, a2, f2).2.1 ∧ (r2, a2, f2).2.1 ≤ 8 := hab2
      have hqa := encs_at (e := f3C) (s := 3) (fun _ => rfl) (i := (j : Int).toNat) (by simpa using hq)
      have hnx2 := fun s (h : behF g r2 a2 = (s, true)) => ptOk_next hqo h
      have hsr : ∀ s, behF g r2 a2 = (s, true) → -100 ≤ s ∧ s ≤ 100 := fun s h => by
        rcases behF_ok h with ⟨_, _, rfl⟩ | ⟨b1, b2, b3, b4, rfl⟩
        · have := fo.st; unfold isName at this; omega
        · have := fo.sym _ (List.mem_of_getElem? (ruleAt_at b1 b2)) _ (List.mem_of_getElem? (int_at b3 b4))
          have := fo.k1
          unfold isSym isKind isName at *; omega
      have hbc2 := fun M => behind_calls (g := g) (r := r2) (a := a2) M
      obtain ⟨⟨t, is⟩, hbe2⟩ : ∃ x, behF g r2 a2 = x := ⟨_, rfl⟩
      rw [hbe2] at hnx2 hbc2 hsr
      repeat (first | refine acode_seq ?_ | refine acode_block ?_ | refine acode_skip ?_ | refine then_n ?_)
      refine acode_drawT 12 mixed (by kernel_rfl) (by kernel_rfl) ?_
      repeat (refine seqT_p tok rfl rfl rfl rfl ?_)
      refine seqT_ix tok (f3C (r2, a2, f2)) rfl rfl rfl rfl (by omega) (by omega) (by simp [f3C]) hqa rfl rfl rfl ?_
      repeat (refine seqT_p tok rfl rfl rfl rfl ?_)
      refine seqT_call _ Try.func95 rfl rfl rfl rfl (hbc2 _) rfl rfl rfl ?_
      repeat (refine seqT_p tok rfl rfl rfl rfl ?_)
      refine SeqT.done ?_
      cases is with
      | false =>
        repeat' (first | refine aops_end ?_ | refine aops_o rfl rfl rfl ?_ | refine aops_a tok rfl (by omega) (by omega) rfl rfl rfl ?_ | refine aops_p tok rfl rfl rfl rfl ?_ | refine acode_if rfl ?_ | refine acode_seq ?_ | refine acode_region ?_ | refine acode_skip ?_ | refine then_n ?_ | refine block_n ?_)
        exact ⟨(j + 1, pm, mo, mc), ⟨by simp only; omega, hpm, by simp only; omega⟩, by simp only; omega, ⟨rfl, rfl, rfl, rfl, rfl, rfl, rfl, rfl, trivial⟩, rfl⟩
      | true =>
        have hnp2 := hnx2 t rfl
        have hsr := hsr t rfl
        by_cases ht0 : t < 0
        · repeat' (first | refine aops_end ?_ | refine aops_a tok rfl (by omega) (by omega) rfl rfl rfl ?_ | refine aops_pbt tok rfl (by first | omega | decide) rfl rfl rfl ?_ | refine aops_p tok rfl rfl rfl rfl ?_ | refine acode_seq ?_ | refine acode_region ?_)
          refine aops_ix tok [A.int .i64 kv] rfl rfl rfl rfl (by omega) (by omega) (by simp) (ints_at (j := i) (by simpa using hkv)) rfl rfl rfl ?_
          repeat' (first | refine aops_end ?_ | refine aops_a tok rfl (by omega) (by omega) rfl rfl rfl ?_ | (refine aops_pd tok rfl rfl rfl rfl ?_ ?_ <;> intro e_) | refine aops_p tok rfl rfl rfl rfl ?_ | refine acode_it rfl ?_ | refine acode_if rfl ?_ | refine acode_region ?_ | refine acode_skip ?_ | refine then_n ?_ | refine block_n ?_)
          · refine acode_drawP [] 23 [0, 1, 2, 3, 4, 5, 6, 7, 8, 9, 10, 11, 12, 13, 14, 15, 16, 17, 18, 19, 20, 21, 22] [22] mixed (by kernel_rfl) (by kernel_rfl) rfl ?_
            repeat (refine seqO_p tok rfl rfl rfl rfl rfl ?_)
            refine seqO_ix tok (f3C (r2, a2, f2)) rfl rfl rfl rfl rfl (by omega) (by omega) (by simp [f3C]) hqa rfl rfl rfl ?_
            repeat (refine seqO_p tok rfl rfl rfl rfl rfl ?_)
            refine seqO_ix tok (f3C (r2, a2, f2)) rfl rfl rfl rfl rfl (by omega) (by omega) (by simp [f3C]) hqa rfl rfl rfl ?_
            repeat (first | refine seqO_a tok rfl rfl (by omega) (by omega) rfl rfl rfl ?_ | refine seqO_p tok rfl rfl rfl rfl rfl ?_)
            refine seqO_ix tok (f3C (r2, a2, f2)) rfl rfl rfl rfl rfl (by omega) (by omega) (by simp [f3C]) hqa rfl rfl rfl ?_
            repeat (refine seqO_p tok rfl rfl rfl rfl rfl ?_)
            refine seqO_lit tok rfl rfl rfl rfl rfl rfl rfl rfl rfl ?_
            refine seqO_app tok 0 (m := 1) (ds := f3C (r2, a2 + 1, f2)) rfl rfl rfl rfl (.inl rfl) rfl rfl (encs_len (e := f3C) (s := 3) (fun _ => rfl) pm) rfl rfl rfl (by show _ * 24 ≤ _; omega) (by omega) (by intro y o ho; simp at ho) rfl rfl rfl fun ob' cap' => ?_
            refine SeqO.done ?_
            repeat (first | refine aops_end ?_ | refine aops_endb ?_ | refine aops_a tok rfl (by omega) (by omega) rfl rfl rfl ?_ | refine aops_p tok rfl rfl rfl rfl ?_ | refine acode_region ?_ | refine then_n ?_)
            refine ⟨(j + 1, pm ++ [(r2, a2 + 1, f2)], ob', cap'), ⟨by simp only; omega, fun z hz => ?_, by simp only [List.length_append, List.length_singleton]; omega⟩, by simp only; omega, ⟨rfl, rfl, rfl, rfl, rfl, by rw [List.length_append]; rfl, rfl, rfl, trivial⟩, by simp only [encs_app]; simp [encs]⟩
            rcases List.mem_append.1 hz with h | h
            · exact hpm z h
            · rw [List.mem_singleton.1 h]; exact ptOk_mono (by omega) hnp2
          · exact ⟨(j + 1, pm, mo, mc), ⟨by simp only; omega, hpm, by simp only; omega⟩, by simp only; omega, ⟨rfl, rfl, rfl, rfl, rfl, rfl, rfl, rfl, trivial⟩, rfl⟩
        · repeat' (first | refine aops_end ?_ | refine aops_o rfl rfl rfl ?_ | refine aops_a tok rfl (by omega) (by omega) rfl rfl rfl ?_ | refine aops_pbf tok rfl (by first | omega | decide) rfl rfl rfl ?_ | refine aops_p tok rfl rfl rfl rfl ?_ | refine acode_if rfl ?_ | refine acode_seq ?_ | refine acode_region ?_ | refine acode_skip ?_ | refine then_n ?_ | refine block_n ?_)
          exact ⟨(j + 1, pm, mo, mc), ⟨by simp only; omega, hpm, by simp only; omega⟩, by simp only; omega, ⟨rfl, rfl, rfl, rfl, rfl, rfl, rfl, rfl, trivial⟩, rfl⟩
    · obtain rfl : j = x.length := by omega
      refine acode_exit ?_
      repeat (first | refine exit_then ?_ | refine exit_here ?_ | refine then_n ?_)
      by_cases hp0 : pm.length = 0
      · repeat' (first | refine aops_end ?_ | refine aops_pbt tok rfl (by first | omega | decide) rfl rfl rfl ?_ | refine aops_p tok rfl rfl rfl rfl ?_ | refine acode_it rfl ?_ | refine acode_seq ?_ | refine acode_region ?_)
        refine acode_exit ?_
        repeat (first | refine exit_then ?_ | refine exit_here ?_ | refine exit_out rfl ?_ | refine then_n ?_)
        refine acode_drop0 ?_
        repeat (first | refine aops_end ?_ | refine aops_p tok rfl rfl rfl rfl ?_ | refine acode_seq ?_ | refine acode_region ?_)
        refine acode_ret ?_
        skip
        exact ⟨_, ⟨all, some c, cap, rfl, rfl, by omega⟩, resOf_tmp rfl⟩
      · repeat' (first | refine aops_end ?_ | refine aops_pbf tok rfl (by first | omega | decide) rfl rfl rfl ?_ | refine aops_p tok rfl rfl rfl rfl ?_ | refine acode_if rfl ?_ | refine acode_seq ?_ | refine acode_region ?_ | refine acode_skip ?_ | refine then_n ?_)
        refine aops_call Try.func94 rfl rfl rfl rfl (fillV_calls (l := pm) (ob := mo) (cap := mc) (k := i + 1) (L0 := pm.length) (all := all) fo hn hnl hal (by omega) (fun i2 x2 h => ?_) hpm rfl (by omega) _ ?_) rfl rfl ?_
        · obtain ⟨h1, h2⟩ := hall i2 x2 h
          have h3 : i2 < all.length := (List.getElem?_eq_some_iff.1 h).1
          have : (i2 + 1) * 1100000 ≤ 2001 * 1100000 := Nat.mul_le_mul_right _ (by omega)
          exact ⟨by omega, h2⟩
        · rw [← hal]
          exact .own (sz := 1) (room := cap * 1) (.head _) rfl (by rw [allA_len, Nat.mul_one]) (by decide) (VwL.rfl' _)
        rintro y M1 ⟨l1, ob1, cap1, rfl, rfl, hl1, hl2⟩
        refine aops_put rfl ?_
        refine aops_pub0 95 3 rfl rfl (encs_len (e := f3C) (s := 3) (fun _ => rfl) l1) rfl ?_
        refine aops_litn tok rfl rfl rfl rfl rfl rfl rfl ?_
        refine aops_append tok 0 (m := 1) (ds := allA [l1]) rfl rfl rfl (.inl rfl) rfl rfl (by rw [allA_len, Nat.mul_one]) rfl rfl rfl (by show _ * 24 ≤ _; omega) (by omega) rfl rfl fun ob0 cap0 => ?_
        repeat (first | refine aops_put rfl ?_ | refine aops_end ?_ | refine aops_endb ?_ | refine aops_a tok rfl (by omega) (by omega) rfl rfl rfl ?_ | refine aops_p tok rfl rfl rfl rfl ?_ | refine acode_region ?_ | refine then_n ?_)
        refine ⟨(i + 1, all ++ [l1], ob0, cap0), ⟨by simp only; omega, by simp only [List.length_append, List.length_singleton]; omega, fun i2 x2 h => ?_⟩, by simp only; omega, ⟨rfl, rfl, rfl, by rw [List.length_append]; rfl, rfl, trivial⟩, by simp [allA]⟩
        by_cases h2 : i2 < all.length
        · rw [List.getElem?_append_left h2] at h
          exact hall i2 x2 h
        · have h3 : i2 < (all ++ [l1]).length := (List.getElem?_eq_some_iff.1 h).1
          rw [List.length_append, List.length_singleton] at h3
          have h4 : i2 = all.length := by omega
          subst h4
          rw [List.getElem?_append_right (Nat.le_refl _), Nat.sub_self] at h
          have h5 : l1 = x2 := by simpa using h
          subst h5
          refine ⟨?_, by rw [hal]; exact hl1⟩
          have h6 : 549 * (i + 1 + 1) ≤ 549 * 2002 := Nat.mul_le_mul_left _ (by omega)
          have h7 : (all.length + 1) * 1100000 = (i + 1) * 1100000 + 1100000 := by rw [hal, Nat.succ_mul]
          omega
  · obtain rfl : i = ks.length := by omega
    refine acode_exit ?_
    repeat (first | refine exit_then ?_ | refine exit_here ?_ | refine then_n ?_)
    repeat (first | refine aops_end ?_ | refine aops_p tok rfl rfl rfl rfl ?_ | refine acode_seq ?_ | refine acode_region ?_)
    refine acode_ret ?_
    skip
    exact ⟨_, ⟨all, ob, cap, rfl, rfl, by omega⟩, resOf_tmp rfl⟩

theorem prefix_calls {g : Gr} {n : Nat} {ks : List Int} (hg : GrOk g) (h : chkF g = 0) (fo : FormOk g n) (hform : (formF g).2 = 0) (hn : g.names = n) (hks : ks.length ≤ 2000) (M : List Ob) :
    ACalls Try.prog 35 [grA g, .psl ks.length (ints ks)] M (fun r M' => (∃ a, r = .int .i64 a) ∧ M' = M) := by
  refine acalls_of_code 19 Try.func35 rfl rfl rfl ?_
  repeat (first | refine acode_seq ?_ | refine acode_region ?_)
  refine aops_boxf rfl rfl rfl rfl rfl rfl rfl ?_
  repeat (first | refine aops_end ?_ | refine aops_p tok rfl rfl rfl rfl ?_ | refine acode_seq ?_ | refine acode_region ?_)
  refine aops_call Try.func10 rfl rfl rfl rfl (check_calls hg _) rfl rfl ?_
  rintro y M1 ⟨⟨a0, rfl⟩, hM1⟩
  rw [h, hM1]
  repeat' (first | refine aops_put rfl ?_ | refine aops_end ?_ | (refine aops_pn tok rfl rfl rfl rfl ?_ ?_ <;> intro e_) | refine aops_p tok rfl rfl rfl rfl ?_ | refine acode_it rfl ?_ | refine acode_if rfl ?_ | refine acode_seq ?_ | refine acode_region ?_ | refine acode_skip ?_ | refine then_n ?_)
  any_goals (exfalso; omega)
  refine aops_call Try.func72 rfl rfl rfl rfl (walk_calls hg hform fo hn hks _) rfl rfl ?_
  rintro y M2 ⟨all, ob, cap, rfl, hM2, hal⟩
  rw [hM2]
  repeat (first | refine aops_put rfl ?_ | refine aops_end ?_ | refine aops_a tok rfl (by omega) (by omega) rfl rfl rfl ?_ | refine aops_p tok rfl rfl rfl rfl ?_)
  refine acode_drop0 ?_
  refine acode_ret ?_
  skip
  exact ⟨_, ⟨⟨_, rfl⟩, rfl⟩, resOf_tmp rfl⟩
end Go.Proofs.Ytbnhmioijeagiaa.Ab
/- Chapter 19's reference, Build in plain terms. No condition. -/
set_option linter.unusedVariables false
set_option linter.unusedSimpArgs false
namespace Go.Proofs.Ytbnhmioijeagiaa.Ab

abbrev Wy := Int × List Ky
def wyCC (w : Wy) : List A := wyC w.1 w.2
/-- The ways of one key, of the rules one after the other, while there are not too many. -/
def mineS (g : Gr) (ks : List Int) (n : Nat) (F : List (List Bool)) (lim : Nat) (k : Ky) (x : List Wy × Nat) (j : Nat) : List Wy × Nat :=
  if x.2 ≤ lim ∧ (ruleAt g j).left = k.1 then
    (x.1 ++ (waysF ks n F (ruleAt g j).right k.2.1.toNat k.2.2.toNat lim).map fun w => ((j : Int), w), x.2 + (waysF ks n F (ruleAt g j).right k.2.1.toNat k.2.2.toNat lim).length)
  else x
def mineF (g : Gr) (ks : List Int) (n : Nat) (F : List (List Bool)) (lim : Nat) (k : Ky) (c : Nat) : List Wy × Nat := (List.range g.rules.length).foldl (mineS g ks n F lim k) ([], c)
def newS (x : List Ky × Nat) (y : Ky) : List Ky × Nat := if 0 ≤ y.1 ∧ findF y x.1 0 < 0 then (x.1 ++ [y], x.2 + 1) else x
def newW (lim : Nat) (x : List Ky × Nat) (w : Wy) : List Ky × Nat := if x.2 ≤ lim then w.2.foldl newS x else x
def bldQ (g : Gr) (ks : List Int) (n : Nat) (F : List (List Bool)) (lim : Nat) : Nat → Nat → List Ky → List (List Wy) → Nat → Option (List Ky × List (List Wy))
  | 0, _, _, _, _ => none
  | q + 1, i, keys, all, c => match keys[i]? with
    | none => some (keys, all)
    | some k => if ((mineF g ks n F lim k c).1.foldl (newW lim) (keys, (mineF g ks n F lim k c).2)).2 > lim then none
      else bldQ g ks n F lim q (i + 1) ((mineF g ks n F lim k c).1.foldl (newW lim) (keys, (mineF g ks n F lim k c).2)).1 (all ++ [(mineF g ks n F lim k c).1]) ((mineF g ks n F lim k c).1.foldl (newW lim) (keys, (mineF g ks n F lim k c).2)).2
def kidN (order : List Ky) (x : Ky) : Int := if x.1 < 0 then -1 - x.2.1 else findF x order 0
def altN (order : List Ky) (w : Wy) : Al := ⟨w.1, w.2.map (kidN order)⟩
def nodeN (keys : List Ky) (all : List (List Wy)) (order : List Ky) (k : Ky) : Nd := ⟨k.1, k.2.1, k.2.2, sortK lowF ((all.getD (findF k keys 0).toNat []).map (altN order))⟩
def bldF (keys : List Ky) (all : List (List Wy)) : Fo := ⟨(sortK aheadF keys).map (nodeN keys all (sortK aheadF keys)), findF (keys.getD 0 (0, 0, 0)) (sortK aheadF keys) 0⟩
/-- What Build answers of a grammar that is right: a forest, or none (its error). -/
def buildF (g : Gr) (ks : List Int) (lim : Nat) : Option Fo × Int :=
  if hasF g.names.toNat ks.length (chF g ks g.names.toNat ks.length) g.start 0 ks.length = false then (none, 10)
  else match bldQ g ks ks.length (chF g ks g.names.toNat ks.length) lim (lim + 2) 0 [(g.start, 0, (ks.length : Int))] [] 1 with
    | none => (none, 9)
    | some x => (some (bldF x.1 x.2), 0)

def kyOk (N n : Nat) (k : Ky) : Prop := 0 ≤ k.1 ∧ k.1 < N ∧ 0 ≤ k.2.1 ∧ k.2.1 ≤ k.2.2 ∧ k.2.2 ≤ n
def kyGood (N n : Nat) (y : Ky) : Prop := (0 ≤ y.2.1 ∧ y.2.1 ≤ n) ∧ (0 ≤ y.1 → y.1 < N ∧ y.2.1 ≤ y.2.2 ∧ y.2.2 ≤ n)
theorem waysL_ky {ks : List Int} {N n : Nat} {F : List (List Bool)} {R : Nat → Nat → List (List Ky)} {s : Int} {l : List Int} {fr to m : Nat} (hs : 0 ≤ s → s < N) (hto : to ≤ n) (hR : ∀ j m', j ≤ to → ∀ w ∈ R j m', ∀ y ∈ w, kyGood N n y) : ∀ (L : List Nat) {out : List (List Ky)}, (∀ j ∈ L, j ≤ to) → (∀ w ∈ out, ∀ y ∈ w, kyGood N n y) → ∀ w ∈ L.foldl (waysS ks n F R s l fr to m) out, ∀ y ∈ w, kyGood N n y
  | [], _, _, h => h
  | j :: L, out, hL, h => waysL_ky hs hto hR L (fun q hq => hL q (by simp [hq])) (by
    have hjt := hL j (by simp)
    intro w hw
    unfold waysS at hw
    split at hw
    · rename_i hc
      rcases List.mem_append.1 hw with h1 | h1
      · exact h w h1
      · obtain ⟨v, hv, rfl⟩ := List.mem_map.1 h1
        intro y hy
        rcases List.mem_cons.1 hy with rfl | hy
        · have hc1 := hc.1
          refine ⟨by unfold kyOf; simp only; omega, fun h0 => ?_⟩
          unfold kyOf at h0 ⊢
          simp only at h0 ⊢
          split at h0
          · omega
          · rename_i hs0
            rw [if_neg hs0]
            have := hs (by omega)
            omega
        · exact hR j _ hjt v hv y hy
    · exact h w hw)
theorem waysF_ky {g : Gr} {ks : List Int} {N n : Nat} {F : List (List Bool)} (hN : g.names = N) : ∀ (l : List Int) (fr to m : Nat), (∀ s ∈ l, isSym g s) → to ≤ n → ∀ w ∈ waysF ks n F l fr to m, ∀ y ∈ w, kyGood N n y
  | [], fr, to, m, _, _, w, hw, y, hy => by unfold waysF at hw; split at hw <;> simp_all
  | s :: l, fr, to, m, hs, hto, w, hw, y, hy => by
    unfold waysF at hw
    refine waysL_ky (fun h0 => ?_) hto (fun j m' hj => waysF_ky hN l j to m' (fun t ht => hs t (by simp [ht])) hto) _ (fun j hj => by have := List.mem_range.1 hj; omega) (by simp) w hw y hy
    have := hs s (by simp)
    unfold isSym isKind isName at this
    omega

theorem mineL_ok {g : Gr} {ks : List Int} {N n lim : Nat} {F : List (List Bool)} {k : Ky} (fo : FormOk g N) (hN : g.names = N) (hto : k.2.2.toNat ≤ n) : ∀ (L : List Nat) (x : List Wy × Nat), (∀ j ∈ L, j < g.rules.length) → (∀ w ∈ x.1, w.2.length ≤ 8 ∧ ∀ y ∈ w.2, kyGood N n y) → ∀ w ∈ (L.foldl (mineS g ks n F lim k) x).1, w.2.length ≤ 8 ∧ ∀ y ∈ w.2, kyGood N n y
  | [], _, _, h => h
  | j :: L, x, hL, h => mineL_ok fo hN hto L _ (fun q hq => hL q (by simp [hq])) (by
    have hj := hL j (by simp)
    have hrm := List.mem_of_getElem? (ruleAt_at (g := g) (i := (j : Int)) (by omega) (by omega))
    intro w hw
    unfold mineS at hw
    split at hw
    · rcases List.mem_append.1 hw with h1 | h1
      · exact h w h1
      · obtain ⟨v, hv, rfl⟩ := List.mem_map.1 h1
        exact ⟨by simp only; rw [waysF_wid _ _ _ _ v hv]; exact fo.len _ hrm, waysF_ky hN _ _ _ _ (fo.sym _ hrm) hto v hv⟩
    · exact h w hw)
theorem mineF_ok {g : Gr} {ks : List Int} {N n lim : Nat} {F : List (List Bool)} {k : Ky} (fo : FormOk g N) (hN : g.names = N) (hto : k.2.2.toNat ≤ n) (c : Nat) : ∀ w ∈ (mineF g ks n F lim k c).1, w.2.length ≤ 8 ∧ ∀ y ∈ w.2, kyGood N n y :=
  mineL_ok fo hN hto _ _ (fun j hj => List.mem_range.1 hj) (by simp)

theorem mineL_le {g : Gr} {ks : List Int} {n lim : Nat} {F : List (List Bool)} {k : Ky} : ∀ (L : List Nat) (x : List Wy × Nat), x.2 ≤ (L.foldl (mineS g ks n F lim k) x).2
  | [], _ => Nat.le_refl _
  | j :: L, x => by
    rw [List.foldl_cons]
    refine Nat.le_trans ?_ (mineL_le L _)
    unfold mineS; split <;> simp
theorem mineF_le (g : Gr) (ks : List Int) (n lim : Nat) (F : List (List Bool)) (k : Ky) (c : Nat) : c ≤ (mineF g ks n F lim k c).2 := mineL_le (List.range g.rules.length) ([], c)
theorem findF_spec (k : Ky) : ∀ (l : List Ky) (i : Int), (findF k l i = -1 ∧ k ∉ l) ∨ ∃ j : Nat, l[j]? = some k ∧ findF k l i = i + (j : Int)
  | [], i => .inl ⟨rfl, by simp⟩
  | x :: l, i => by
    unfold findF
    split
    · rename_i h; exact .inr ⟨0, by simp [h], by simp⟩
    · rename_i h
      rcases findF_spec k l (i + 1) with ⟨h1, h2⟩ | ⟨j, h1, h2⟩
      · exact .inl ⟨h1, by simp [h2]; exact fun e => h e.symm⟩
      · exact .inr ⟨j + 1, by simpa using h1, by rw [h2]; push_cast; omega⟩
theorem findF_neg {k : Ky} {l : List Ky} : findF k l 0 < 0 ↔ k ∉ l := by
  rcases findF_spec k l 0 with ⟨h1, h2⟩ | ⟨j, h1, h2⟩
  · simp [h1, h2]
  · have := List.mem_of_getElem? h1
    simp [this]; omega
theorem findF_at {k : Ky} {l : List Ky} (h : k ∈ l) : l[(findF k l 0).toNat]? = some k ∧ 0 ≤ findF k l 0 ∧ findF k l 0 < l.length := by
  rcases findF_spec k l 0 with ⟨h1, h2⟩ | ⟨j, h1, h2⟩
  · exact absurd h h2
  · have hlt : j < l.length := (List.getElem?_eq_some_iff.1 h1).1
    rw [h2]
    exact ⟨by simpa using h1, by omega, by omega⟩
theorem sortL_mem {α : Type} (lt : α → α → Bool) : ∀ (l out : List α) {z : α}, z ∈ l.foldl (fun out x => insK lt x out) out ↔ z ∈ out ∨ z ∈ l
  | [], out, z => by simp
  | x :: l, out, z => by
    rw [List.foldl_cons, sortL_mem lt l, insK_mem]
    simp only [List.mem_cons]
    constructor
    · rintro ((h | h) | h) <;> simp [h]
    · rintro (h | h | h) <;> simp [h]
theorem sortK_mem {α : Type} {lt : α → α → Bool} {l : List α} {z : α} : z ∈ sortK lt l ↔ z ∈ l := by unfold sortK; rw [sortL_mem]; simp
theorem sortL_len {α : Type} (lt : α → α → Bool) : ∀ (l out : List α), (l.foldl (fun out x => insK lt x out) out).length = out.length + l.length
  | [], out => by simp
  | x :: l, out => by rw [List.foldl_cons, sortL_len lt l, insK_len, List.length_cons]; omega
theorem sortK_len {α : Type} {lt : α → α → Bool} {l : List α} : (sortK lt l).length = l.length := by unfold sortK; rw [sortL_len]; simp
def AllOk (N n lim : Nat) (all : List (List Wy)) : Prop := ∀ m ∈ all, m.length ≤ 2 * lim + 1 ∧ ∀ w ∈ m, w.2.length ≤ 8 ∧ ∀ y ∈ w.2, kyGood N n y
theorem getD_ok {N n lim : Nat} {all : List (List Wy)} (h : AllOk N n lim all) (i : Nat) : (all.getD i []).length ≤ 2 * lim + 1 ∧ ∀ w ∈ all.getD i [], w.2.length ≤ 8 ∧ ∀ y ∈ w.2, kyGood N n y := by
  rw [List.getD_eq_getElem?_getD]
  cases h1 : all[i]? with
  | none => simp
  | some m => exact h m (List.mem_of_getElem? h1)
theorem kidN_rng {order : List Ky} {N n : Nat} (hn : n ≤ 2000) (ho : order.length ≤ 200000) {y : Ky} (hy : kyGood N n y) : rng (kidN order y) := by
  unfold kidN rng
  split
  · have := hy.1; omega
  · rcases findF_spec y order 0 with ⟨h, _⟩ | ⟨j, h1, h2⟩
    · omega
    · have hlt : j < order.length := (List.getElem?_eq_some_iff.1 h1).1
      omega
theorem bldF_ok {N n lim : Nat} {keys : List Ky} {all : List (List Wy)} (hn : n ≤ 2000) (hlim : lim ≤ 100000) (hk : keys.length ≤ lim + 1) (h : AllOk N n lim all) : FoOk (bldF keys all) ∧ FoRng (bldF keys all) := by
  have key : ∀ nd ∈ (bldF keys all).nodes, nd.alts.length ≤ 2 * lim + 1 ∧ ∀ a ∈ nd.alts, a.kids.length ≤ 8 ∧ ∀ k ∈ a.kids, rng k := by
    intro nd hnd
    obtain ⟨k, hk1, rfl⟩ := List.mem_map.1 hnd
    obtain ⟨g1, g2⟩ := getD_ok h (findF k keys 0).toNat
    refine ⟨by unfold nodeN; simp only [sortK_len, List.length_map]; exact g1, fun a ha => ?_⟩
    obtain ⟨w, hw, rfl⟩ := List.mem_map.1 (sortK_mem.1 ha)
    obtain ⟨g3, g4⟩ := g2 w hw
    refine ⟨by unfold altN; simp only [List.length_map]; exact g3, fun x hx => ?_⟩
    obtain ⟨y, hy, rfl⟩ := List.mem_map.1 hx
    exact kidN_rng hn (by rw [sortK_len]; omega) (g4 y hy)
  refine ⟨⟨by unfold bldF; simp only [List.length_map, sortK_len]; omega, fun nd hnd => ?_⟩, fun nd hnd a ha k hk => ((key nd hnd).2 a ha).2 k hk⟩
  obtain ⟨h1, h2⟩ := key nd hnd
  exact ⟨by omega, fun a ha => by have := (h2 a ha).1; omega⟩
end Go.Proofs.Ytbnhmioijeagiaa.Ab
/- Chapter 19's reference, Build: the walk, its beginning. No condition. -/
set_option linter.unusedVariables false
set_option linter.unusedSimpArgs false
namespace Go.Proofs.Ytbnhmioijeagiaa.Ab
attribute [local irreducible] thenA inBlockA ACode AOps put IntKind.wrap

theorem ndK_len (n : Nd) : (ndC n).length = 4 := rfl
theorem bcut_calls {m : Nat} (hm : m ≤ 100000) (M : List Ob) : ACalls Try.prog 36 [.int .i64 m, .int .i64 0, .int .i64 100000] M (fun r M' => r = .int .i64 m ∧ M' = M) := by
  refine acalls_of_code 18 Try.func36 rfl rfl rfl ?_
  repeat' (first | refine aops_end ?_ | refine aops_pbf tok rfl (by first | omega | decide) rfl rfl rfl ?_ | refine aops_p tok rfl rfl rfl rfl ?_ | refine acode_if rfl ?_ | refine acode_seq ?_ | refine acode_region ?_ | refine acode_block ?_ | refine acode_skip ?_ | refine then_n ?_ | refine block_n ?_)
  refine acode_ret ?_
  skip
  exact ⟨_, ⟨rfl, rfl⟩, resOf_tmp rfl⟩
def allW (all : List (List Wy)) : List A := all.map fun m => A.psl m.length (encs wyCC m)
theorem allW_len (all : List (List Wy)) : (allW all).length = all.length := by simp [allW]
theorem wyCC_len (w : Wy) : (wyCC w).length = 2 := rfl
theorem encs_way (j : Int) (l : List (List Ky)) : encs wyCC (l.map fun w => (j, w)) = encs (wyC j) l := by
  induction l with
  | nil => rfl
  | cons w l ih => simp only [encs, List.map_cons, List.flatMap_cons] at *; rw [ih]; rfl
def BuildR (g : Gr) (ks : List Int) (lim : Nat) (M : List Ob) : A → List Ob → Prop := fun r M' => ((∃ a e, e ≠ 0 ∧ (buildF g ks lim).1 = none ∧ r = .tup [foA ⟨[], 0⟩, .int .i64 a, .int .i64 e]) ∨ (∃ f, (buildF g ks lim).1 = some f ∧ FoOk f ∧ FoRng f ∧ r = .tup [foA f, .int .i64 ks.length, .int .i64 0])) ∧ M' = M

set_option maxHeartbeats 32000000 in
theorem build_calls {g : Gr} {ks : List Int} {N n lim : Nat} (hg : GrOk g) (h : chkF g = 0) (hN : g.names = N) (hks : ks.length = n) (hn : n ≤ 2000) (hlim : lim ≤ 100000) (M : List Ob) :
    ACalls Try.prog 12 [grA g, .psl ks.length (ints ks), .int .i64 lim] M (BuildR g ks lim M) := by
  subst hks
  have hform : (formF g).2 = 0 := by
    unfold chkF at h
    split at h
    · rename_i h1; exact absurd h h1
    · rename_i h1; exact Classical.not_not.1 h1
  obtain ⟨fo, hN'⟩ := form_ok hform
  have hNN : g.names.toNat = N := by omega
  rw [hNN] at fo
  have hN1 := fo.n1
  have hlt : ∀ r ∈ g.rules, r.left.toNat < N := fun r hr => by have := fo.left r hr; unfold isName at this; omega
  have hrl := fo.rl
  have hB : buildF g ks lim = if hasF N ks.length (chF g ks N ks.length) g.start 0 ks.length = false then ((none : Option Fo), (10 : Int)) else match bldQ g ks ks.length (chF g ks N ks.length) lim (lim + 2) 0 [(g.start, 0, (ks.length : Int))] [] 1 with
    | none => (none, 9)
    | some x => (some (bldF x.1 x.2), 0) := by unfold buildF; rw [hNN] <;> rfl
  have hFok : FOk (N * (ks.length + 1)) ks.length (chF g ks N ks.length) := chF_ok hlt
  refine acalls_of_code 312 Try.func12 rfl rfl rfl ?_
  repeat (first | refine acode_seq ?_ | refine acode_region ?_)
  refine aops_boxf rfl rfl rfl rfl rfl rfl rfl ?_
  skip
  refine aops_alloc tok rfl rfl rfl rfl rfl rfl fun fb => ?_
  repeat (first | refine aops_end ?_ | refine aops_p tok rfl rfl rfl rfl ?_ | refine acode_seq ?_ | refine acode_region ?_)
  refine aops_callx Try.func33 rfl rfl rfl rfl (newChart_calls hg h hN rfl hn _) rfl rfl rfl ?_
  generalize chF g ks N ks.length = F at *
  repeat' (first | refine aops_end ?_ | (refine aops_pn tok rfl rfl rfl rfl ?_ ?_ <;> intro e_) | refine aops_p tok rfl rfl rfl rfl ?_ | refine acode_it rfl ?_ | refine acode_if rfl ?_ | refine aops_stn tok rfl rfl rfl rfl rfl rfl rfl rfl rfl ?_ | refine acode_seq ?_ | refine acode_region ?_ | refine acode_skip ?_ | refine then_n ?_)
  try any_goals (exfalso; omega)
  refine aops_callx Try.func34 rfl rfl rfl rfl (has_calls hN rfl hn hFok _) rfl rfl rfl ?_
  cases hh : hasF N ks.length F g.start 0 ks.length with
  | false =>
    rw [hh, if_pos rfl] at hB
    repeat' (first | refine aops_end ?_ | refine aops_p tok rfl rfl rfl rfl ?_ | refine acode_it rfl ?_ | refine acode_seq ?_ | refine acode_region ?_)
    refine aops_call Try.func35 rfl rfl rfl rfl (prefix_calls hg h fo hform hN (by omega) _) rfl rfl ?_
    rintro y M1 ⟨⟨a0, rfl⟩, hM1⟩
    rw [hM1]
    repeat (first | refine aops_put rfl ?_ | refine aops_end ?_ | refine aops_p tok rfl rfl rfl rfl ?_ | refine aops_stn tok rfl rfl rfl rfl rfl rfl rfl rfl rfl ?_)
    refine acode_freezeV (V := [⟨some fb, 2, [.nils, .int .i64 0]⟩]) [(6, .pp (foC ⟨[], 0⟩)), (7, .int .i64 a0), (8, .int .i64 10)] ⟨.ref (.head _) (.cons .nils (.cons (.refl _) .nil)), .refl _, .refl _, trivial⟩ ?_
    refine acode_ret ?_
    repeat (refine ret_then ?_)
    exact ⟨_, ⟨.inl ⟨a0, 10, by omega, by rw [hB], rfl⟩, rfl⟩, _, rfl, resOf_pp tok rfl rfl rfl⟩
  | true =>
    rw [hh, if_neg (by simp)] at hB
    repeat' (first | refine aops_end ?_ | refine aops_p tok rfl rfl rfl rfl ?_ | refine acode_if rfl ?_ | refine acode_seq ?_ | refine acode_region ?_ | refine acode_skip ?_ | refine then_n ?_)
    refine aops_callx Try.func36 rfl rfl rfl rfl (bcut_calls hlim _) rfl rfl rfl ?_
    repeat (first | refine aops_end ?_ | refine aops_p tok rfl rfl rfl rfl ?_ | refine acode_seq ?_ | refine acode_region ?_)
    refine aops_lito tok rfl rfl rfl rfl rfl rfl rfl fun kb => ?_
    repeat (first | refine aops_end ?_ | refine aops_p tok rfl rfl rfl rfl ?_ | refine acode_seq ?_ | refine acode_region ?_ | refine acode_block ?_)
    refine acode_adopt 13 1 rfl ?_
    have hk0 : kyOk N ks.length (g.start, 0, (ks.length : Int)) := by
      have := fo.st; unfold isName at this
      exact ⟨this.1, by simp only; omega, by simp, by simp, by simp⟩
    generalize hfin : bldQ g ks ks.length F lim (lim + 2) 0 [(g.start, 0, (ks.length : Int))] [] 1 = fin at hB
    refine acode_loopS (ι := Nat × Nat × List Ky × List (List Wy) × Nat × (Option Nat × Nat) × (Option Nat × Nat)) (fun p => [(2, .int .i64 lim), (3, .pp (grC g)), (6, .ref fb 0), (9, .pp (chC g ks N ks.length F)), (11, .int .i64 ks.length), (12, .own p.2.2.2.2.2.1.1 p.2.2.1.length p.2.2.2.2.2.1.2), (13, .own p.2.2.2.2.2.2.1 p.2.2.2.1.length p.2.2.2.2.2.2.2), (14, .int .i64 p.2.2.2.2.1), (15, .int .i64 p.2.1)]) (fun p => ⟨p.2.2.2.2.2.2.1, p.2.2.2.2.2.2.2 * 1, allW p.2.2.2.1⟩ :: ⟨p.2.2.2.2.2.1.1, p.2.2.2.2.2.1.2 * 3, encs f3C p.2.2.1⟩ :: ⟨some fb, 2, [.nils, .int .i64 0]⟩ :: M) (fun p => p.1)
      (fun p => bldQ g ks ks.length F lim p.1 p.2.1 p.2.2.1 p.2.2.2.1 p.2.2.2.2.1 = fin ∧ p.1 + p.2.1 = lim + 2 ∧ p.2.1 ≤ p.2.2.1.length ∧ p.2.2.2.1.length = p.2.1 ∧ p.2.2.1.length ≤ p.2.2.2.2.1 ∧ p.2.2.2.2.1 ≤ lim + 1 ∧ (∀ k ∈ p.2.2.1, kyOk N ks.length k) ∧ 0 < p.2.2.1.length ∧ AllOk N ks.length lim p.2.2.2.1) (lim + 2, 0, [(g.start, 0, (ks.length : Int))], [], 1, (some kb, 1), (none, 0)) ⟨hfin, by simp, by simp, by simp, by simp, by simp only; omega, fun k hk => by rw [List.mem_singleton.1 hk]; exact hk0, by simp, by simp [AllOk]⟩ ⟨rfl, rfl, rfl, rfl, rfl, rfl, rfl, rfl, rfl, trivial⟩ rfl ?_
    clear hfin hk0
    rintro ⟨q, i, keys, all, c, ⟨kb, kcap⟩, ab, acap⟩ ⟨hfin, hqi, hik, hal, hkc, hcl, hko, hk1, hall⟩
    simp only at hfin hqi hik hal hkc hcl hko hk1 hall ⊢
    obtain ⟨q', rfl⟩ : ∃ q', q = q' + 1 := ⟨q - 1, by omega⟩
    unfold bldQ at hfin
    repeat (first | refine aops_end ?_ | refine aops_p tok rfl rfl rfl rfl ?_ | refine acode_seq ?_ | refine acode_region ?_)
    refine acode_id rfl (fun e => ?_) (fun e => ?_)
    · have hil : i < keys.length := by omega
      obtain ⟨k, hk⟩ : ∃ k, keys[i]? = some k := ⟨keys[i], List.getElem?_eq_getElem hil⟩
      rw [hk] at hfin
      simp only at hfin
      refine acode_somed 12 rfl (by omega) fun cb hcb => ?_
      subst hcb
      have hkk := hko k (List.mem_of_getElem? hk)
      obtain ⟨s, fr, to⟩ := k
      obtain ⟨s0, s1, f0, f1, t1⟩ := hkk
      simp only at s0 s1 f0 f1 t1
      obtain ⟨fr, rfl⟩ := Int.eq_ofNat_of_zero_le f0
      obtain ⟨to, rfl⟩ := Int.eq_ofNat_of_zero_le (show 0 ≤ to by omega)
      have hc0 := f3_cell (q := 0) hk rfl
      have hc1 := f3_cell (q := 1) hk rfl
      have hc2 := f3_cell (q := 2) hk rfl
      have hmok := mineF_ok (g := g) (ks := ks) (n := ks.length) (F := F) (lim := lim) (k := (s, (fr : Int), (to : Int))) fo hN (by simp only [Int.toNat_natCast]; omega) c
      have hmle := mineF_le g ks ks.length lim F (s, (fr : Int), (to : Int)) c
      generalize hmi : mineF g ks ks.length F lim (s, (fr : Int), (to : Int)) c = mi at hfin hmok hmle
      unfold mineF at hmi
      repeat (first | refine acode_seq ?_ | refine acode_region ?_ | refine acode_block ?_ | refine acode_skip ?_ | refine then_n ?_ | refine block_n ?_)
      repeat (refine aops_p tok rfl rfl rfl rfl ?_)
      refine aops_end ?_
      refine acode_adopt 16 2 rfl ?_
      refine acode_seq ?_
      refine acode_joinI (ι := Option Nat × Nat) (fun p => [(2, .int .i64 lim), (3, .pp (grC g)), (6, .ref fb 0), (9, .pp (chC g ks N ks.length F)), (11, .int .i64 ks.length), (12, .own (some cb) keys.length kcap), (13, .own ab all.length acap), (14, .int .i64 mi.2), (15, .int .i64 i), (16, .own p.1 mi.1.length p.2)]) (fun p => ⟨p.1, p.2 * 2, encs wyCC mi.1⟩ :: ⟨ab, acap * 1, allW all⟩ :: ⟨some cb, kcap * 3, encs f3C keys⟩ :: ⟨some fb, 2, [.nils, .int .i64 0]⟩ :: M) (fun p => mi.1.length ≤ mi.2 ∧ mi.2 ≤ 2 * lim + 1) ?_ ?_
      · repeat (first | refine aops_end ?_ | refine aops_p tok rfl rfl rfl rfl ?_ | refine acode_seq ?_ | refine acode_region ?_ | refine acode_block ?_)
        refine acode_loopS (ι := Nat × List Wy × Nat × Option Nat × Nat) (fun p => [(2, .int .i64 lim), (3, .pp (grC g)), (6, .ref fb 0), (9, .pp (chC g ks N ks.length F)), (11, .int .i64 ks.length), (12, .own (some cb) keys.length kcap), (13, .own ab all.length acap), (14, .int .i64 p.2.2.1), (15, .int .i64 i), (16, .own p.2.2.2.1 p.2.1.length p.2.2.2.2), (17, .int .i64 p.1)]) (fun p => ⟨p.2.2.2.1, p.2.2.2.2 * 2, encs wyCC p.2.1⟩ :: ⟨ab, acap * 1, allW all⟩ :: ⟨some cb, kcap * 3, encs f3C keys⟩ :: ⟨some fb, 2, [.nils, .int .i64 0]⟩ :: M) (fun p => g.rules.length - p.1) (fun p => p.1 ≤ g.rules.length ∧ ((List.range g.rules.length).drop p.1).foldl (mineS g ks ks.length F lim (s, (fr : Int), (to : Int))) (p.2.1, p.2.2.1) = mi ∧ p.2.1.length ≤ p.2.2.1 ∧ p.2.2.1 ≤ 2 * lim + 1) (0, [], c, none, 0) ⟨Nat.zero_le _, hmi, by simp, by simp only; omega⟩ ⟨rfl, rfl, rfl, rfl, rfl, rfl, rfl, rfl, rfl, rfl, rfl, trivial⟩ rfl ?_
        clear hmi
        rintro ⟨j, mine, c, mo, mc⟩ ⟨hj, hmi, hml, hc2l⟩
        simp only at hj hmi hml hc2l ⊢
        by_cases hjl : j < g.rules.length
        · by_cases hcl2 : c ≤ lim
          · rw [range_drop hjl, List.foldl_cons] at hmi
            have hjr : g.rules[(j : Int).toNat]? = some (ruleAt g j) := ruleAt_at (by omega) (by omega)
            have hrm := List.mem_of_getElem? hjr
            have hjr2 : g.rules[j]? = some (ruleAt g j) := by simpa using hjr
            have hst : mineS g ks ks.length F lim (s, (fr : Int), (to : Int)) (mine, c) j = if (ruleAt g j).left = s then (mine ++ (waysF ks ks.length F (ruleAt g j).right fr to lim).map (fun w => ((j : Int), w)), c + (waysF ks ks.length F (ruleAt g j).right fr to lim).length) else (mine, c) := by
              unfold mineS
              by_cases hls : (ruleAt g j).left = s
              · rw [if_pos ⟨hcl2, hls⟩, if_pos hls]; rfl
              · rw [if_neg (fun h => hls h.2), if_neg hls]
            have hwl := waysF_len (ks := ks) (n := ks.length) (F := F) (ruleAt g j).right fr to lim
            have hwc := ways_calls (g := g) (ks := ks) (N := N) (n := ks.length) (F := F) (r := (j : Int)) hN rfl hn (by have := fo.k1; omega) hFok (ruleAt g j).right fr to lim (by have := fo.len _ hrm; omega) (fo.sym _ hrm) (by omega) (by omega) (by omega)
            rw [hst] at hmi
            generalize waysF ks ks.length F (ruleAt g j).right fr to lim = ws at *
            repeat' (first | refine aops_end ?_ | refine aops_pbt tok rfl (by first | omega | decide) rfl rfl rfl ?_ | refine aops_pet tok rfl (by omega) rfl rfl rfl ?_ | refine aops_p tok rfl rfl rfl rfl ?_ | refine acode_it rfl ?_ | refine acode_seq ?_ | refine acode_region ?_ | refine acode_block ?_ | refine acode_skip ?_ | refine then_n ?_)
            refine acode_drawT 12 mixed (by kernel_rfl) (by kernel_rfl) ?_
            repeat (refine seqT_p tok rfl rfl rfl rfl ?_)
            refine seqT_ix tok (ruC (ruleAt g j)) rfl rfl rfl rfl (by omega) (by omega) (by simp [ruC]) (encs_at (e := ruC) (s := 3) (fun _ => rfl) hjr) rfl rfl rfl ?_
            repeat (refine seqT_p tok rfl rfl rfl rfl ?_)
            refine seqT_ixo tok rfl rfl rfl rfl (by omega) (by omega) rfl rfl rfl ?_
            repeat (refine seqT_p tok rfl rfl rfl rfl ?_)
            refine seqT_ld tok 2 (y := .int .i64 s) rfl rfl rfl rfl (by rw [headed_eq]; exact hc0) rfl rfl rfl ?_
            by_cases hls : (ruleAt g j).left = s
            · rw [if_pos hls] at hmi
              repeat' ((refine seqT_pn tok rfl rfl rfl rfl ?_ ?_ <;> intro e_))
              try any_goals (exfalso; omega)
              refine SeqT.done ?_
              repeat' (first | refine aops_end ?_ | refine acode_if rfl ?_ | refine acode_seq ?_ | refine acode_skip ?_ | refine then_n ?_)
              refine acode_drawT 20 mixed (by kernel_rfl) (by kernel_rfl) ?_
              repeat (refine seqT_p tok rfl rfl rfl rfl ?_)
              refine seqT_ix tok (ruC (ruleAt g j)) rfl rfl rfl rfl (by omega) (by omega) (by simp [ruC]) (encs_at (e := ruC) (s := 3) (fun _ => rfl) hjr) rfl rfl rfl ?_
              repeat (refine seqT_p tok rfl rfl rfl rfl ?_)
              refine seqT_ixo tok rfl rfl rfl rfl (by omega) (by omega) rfl rfl rfl ?_
              repeat (refine seqT_p tok rfl rfl rfl rfl ?_)
              refine seqT_ld tok 2 (y := .int .i64 fr) rfl rfl rfl rfl (by rw [headed_eq]; exact hc1) rfl rfl rfl ?_
              repeat (refine seqT_p tok rfl rfl rfl rfl ?_)
              refine seqT_ixo tok rfl rfl rfl rfl (by omega) (by omega) rfl rfl rfl ?_
              repeat (refine seqT_p tok rfl rfl rfl rfl ?_)
              refine seqT_ld tok 2 (y := .int .i64 to) rfl rfl rfl rfl (by rw [headed_eq]; exact hc2) rfl rfl rfl ?_
              repeat (refine seqT_p tok rfl rfl rfl rfl ?_)
              refine seqT_call _ Try.func37 rfl rfl rfl rfl (hwc _) rfl rfl rfl ?_
              skip
              refine SeqT.done ?_
              repeat (first | refine aops_end ?_ | refine aops_a tok rfl (by omega) (by omega) rfl rfl rfl ?_ | refine aops_p tok rfl rfl rfl rfl ?_ | refine acode_seq ?_ | refine acode_region ?_)
              refine aops_append tok 0 (m := ws.length) (ds := encs (wyC j) ws) rfl rfl rfl (.inl rfl) rfl rfl (encs_len wyCC_len mine) (encs_len (wyC_len _) ws) (encs_cell (fun _ => rfl) _) rfl (by show _ * 32 ≤ _; omega) (by omega) rfl rfl fun ob' cap' => ?_
              repeat (first | refine aops_put rfl ?_ | refine aops_end ?_ | refine aops_endb ?_ | refine aops_a tok rfl (by omega) (by omega) rfl rfl rfl ?_ | refine aops_p tok rfl rfl rfl rfl ?_ | refine acode_region ?_ | refine then_n ?_)
              exact ⟨(j + 1, mine ++ ws.map (fun w => ((j : Int), w)), c + ws.length, ob', cap'), ⟨by simp only; omega, hmi, by simp only [List.length_append, List.length_map]; omega, by simp only; omega⟩, by simp only; omega, ⟨rfl, rfl, rfl, rfl, rfl, rfl, rfl, rfl, rfl, by rw [List.length_append, List.length_map]; rfl, rfl, trivial⟩, by simp only [encs_app, encs_way]; rfl⟩
            · rw [if_neg hls] at hmi
              repeat' ((refine seqT_pn tok rfl rfl rfl rfl ?_ ?_ <;> intro e_))
              try any_goals (exfalso; omega)
              refine SeqT.done ?_
              repeat' (first | refine aops_end ?_ | refine acode_it rfl ?_)
              refine acode_exit ?_
              repeat (first | refine exit_then ?_ | refine exit_here ?_ | refine then_n ?_)
              repeat (first | refine aops_end ?_ | refine aops_a tok rfl (by omega) (by omega) rfl rfl rfl ?_ | refine aops_p tok rfl rfl rfl rfl ?_ | refine acode_region ?_)
              exact ⟨(j + 1, mine, c, mo, mc), ⟨by simp only; omega, hmi, hml, hc2l⟩, by simp only; omega, ⟨rfl, rfl, rfl, rfl, rfl, rfl, rfl, rfl, rfl, rfl, rfl, trivial⟩, rfl⟩
          · have hfull : ∀ L : List Nat, L.foldl (mineS g ks ks.length F lim (s, (fr : Int), (to : Int))) (mine, c) = (mine, c) := by
              intro L
              induction L with
              | nil => rfl
              | cons x L ih => rw [List.foldl_cons, show mineS g ks ks.length F lim (s, (fr : Int), (to : Int)) (mine, c) x = (mine, c) by unfold mineS; rw [if_neg (fun h => hcl2 h.1)]]; exact ih
            rw [hfull] at hmi
            subst hmi
            repeat' (first | refine aops_end ?_ | refine aops_pbt tok rfl (by first | omega | decide) rfl rfl rfl ?_ | refine aops_pbf tok rfl (by first | omega | decide) rfl rfl rfl ?_ | refine aops_pet tok rfl (by omega) rfl rfl rfl ?_ | refine aops_p tok rfl rfl rfl rfl ?_ | refine acode_if rfl ?_ | refine acode_seq ?_ | refine acode_region ?_)
            refine acode_exit ?_
            repeat (first | refine exit_then ?_ | refine exit_here ?_ | refine then_n ?_)
            exact ⟨(mo, mc), ⟨hml, hc2l⟩, ⟨rfl, rfl, rfl, rfl, rfl, rfl, rfl, rfl, rfl, rfl, trivial⟩, rfl⟩
        · rw [List.drop_of_length_le (by simp; omega), List.foldl_nil] at hmi
          subst hmi
          repeat' (first | refine aops_end ?_ | refine aops_o rfl rfl rfl ?_ | refine aops_pbf tok rfl (by first | omega | decide) rfl rfl rfl ?_ | refine aops_p tok rfl rfl rfl rfl ?_ | refine acode_if rfl ?_ | refine acode_seq ?_ | refine acode_region ?_)
          refine acode_exit ?_
          repeat (first | refine exit_then ?_ | refine exit_here ?_ | refine then_n ?_)
          exact ⟨(mo, mc), ⟨hml, hc2l⟩, ⟨rfl, rfl, rfl, rfl, rfl, rfl, rfl, rfl, rfl, rfl, trivial⟩, rfl⟩
      rintro ⟨mo, mc⟩ ⟨hml, hc2l⟩
      simp only at hml hc2l ⊢
      refine acode_pub0 16 2 rfl rfl (encs_len wyCC_len _) rfl ?_
      generalize hnk : mi.1.foldl (newW lim) (keys, mi.2) = nk at hfin
      repeat (first | refine acode_seq ?_ | refine acode_region ?_ | refine acode_block ?_ | refine acode_skip ?_ | refine then_n ?_ | refine block_n ?_)
      repeat (refine aops_p tok rfl rfl rfl rfl ?_)
      refine aops_end ?_
      refine acode_joinI (ι := Option Nat × Nat) (fun p => [(2, .int .i64 lim), (3, .pp (grC g)), (6, .ref fb 0), (9, .pp (chC g ks N ks.length F)), (11, .int .i64 ks.length), (12, .own p.1 nk.1.length p.2), (13, .own ab all.length acap), (14, .int .i64 nk.2), (15, .int .i64 i), (16, .psl mi.1.length (encs wyCC mi.1))]) (fun p => ⟨ab, acap * 1, allW all⟩ :: ⟨p.1, p.2 * 3, encs f3C nk.1⟩ :: ⟨some fb, 2, [.nils, .int .i64 0]⟩ :: M) (fun p => (∀ k ∈ nk.1, kyOk N ks.length k) ∧ keys.length ≤ nk.1.length ∧ nk.1.length ≤ nk.2 ∧ nk.2 ≤ 2 * lim + 9) ?_ ?_
      · repeat (refine acode_block ?_)
        refine acode_loopS (ι := Nat × List Ky × Nat × Option Nat × Nat) (fun p => [(2, .int .i64 lim), (3, .pp (grC g)), (6, .ref fb 0), (9, .pp (chC g ks N ks.length F)), (11, .int .i64 ks.length), (12, .own p.2.2.2.1 p.2.1.length p.2.2.2.2), (13, .own ab all.length acap), (14, .int .i64 p.2.2.1), (15, .int .i64 i), (16, .psl mi.1.length (encs wyCC mi.1)), (19, .int .i64 p.1)]) (fun p => ⟨ab, acap * 1, allW all⟩ :: ⟨p.2.2.2.1, p.2.2.2.2 * 3, encs f3C p.2.1⟩ :: ⟨some fb, 2, [.nils, .int .i64 0]⟩ :: M) (fun p => mi.1.length - p.1) (fun p => p.1 ≤ mi.1.length ∧ (mi.1.drop p.1).foldl (newW lim) (p.2.1, p.2.2.1) = nk ∧ (∀ k ∈ p.2.1, kyOk N ks.length k) ∧ keys.length ≤ p.2.1.length ∧ p.2.1.length ≤ p.2.2.1 ∧ p.2.2.1 ≤ 2 * lim + 9) (0, keys, mi.2, some cb, kcap) ⟨Nat.zero_le _, hnk, hko, Nat.le_refl _, by simp only; omega, by simp only; omega⟩ ⟨rfl, rfl, rfl, rfl, rfl, rfl, rfl, rfl, rfl, rfl, rfl, trivial⟩ rfl ?_
        clear hnk
        rintro ⟨k, keys2, c2, kb2, kcap2⟩ ⟨hkl, hnk, hko2, hkg, hkc2, hc2⟩
        simp only at hkl hnk hko2 hkg hkc2 hc2 ⊢
        by_cases hkl2 : k < mi.1.length
        · by_cases hcl2 : c2 ≤ lim
          · obtain ⟨w, hw⟩ : ∃ w, mi.1[k]? = some w := ⟨mi.1[k], List.getElem?_eq_getElem hkl2⟩
            obtain ⟨hw8, hwg⟩ := hmok w (List.mem_of_getElem? hw)
            have hww := encs_at (e := wyCC) (s := 2) (fun _ => rfl) (i := (k : Int).toNat) (by simpa using hw)
            have hdw : mi.1.drop k = w :: mi.1.drop (k + 1) := by
              rw [List.drop_eq_getElem_cons hkl2]
              rw [List.getElem?_eq_getElem hkl2] at hw
              rw [Option.some.inj hw]
            rw [hdw, List.foldl_cons, show newW lim (keys2, c2) w = w.2.foldl newS (keys2, c2) by unfold newW; rw [if_pos hcl2]] at hnk
            repeat' (first | refine aops_end ?_ | refine aops_pbt tok rfl (by first | omega | decide) rfl rfl rfl ?_ | refine aops_pet tok rfl (by omega) rfl rfl rfl ?_ | refine aops_p tok rfl rfl rfl rfl ?_ | refine acode_it rfl ?_ | refine acode_seq ?_ | refine acode_region ?_ | refine acode_block ?_ | refine acode_skip ?_ | refine then_n ?_)
            try any_goals (exfalso; omega)
            refine acode_loopS (ι := Nat × List Ky × Nat × Option Nat × Nat) (fun p => [(2, .int .i64 lim), (3, .pp (grC g)), (6, .ref fb 0), (9, .pp (chC g ks N ks.length F)), (11, .int .i64 ks.length), (12, .own p.2.2.2.1 p.2.1.length p.2.2.2.2), (13, .own ab all.length acap), (14, .int .i64 p.2.2.1), (15, .int .i64 i), (16, .psl mi.1.length (encs wyCC mi.1)), (19, .int .i64 k), (20, .int .i64 p.1)]) (fun p => ⟨ab, acap * 1, allW all⟩ :: ⟨p.2.2.2.1, p.2.2.2.2 * 3, encs f3C p.2.1⟩ :: ⟨some fb, 2, [.nils, .int .i64 0]⟩ :: M) (fun p => w.2.length - p.1) (fun p => p.1 ≤ w.2.length ∧ (w.2.drop p.1).foldl newS (p.2.1, p.2.2.1) = w.2.foldl newS (keys2, c2) ∧ (∀ k ∈ p.2.1, kyOk N ks.length k) ∧ keys.length ≤ p.2.1.length ∧ p.2.1.length ≤ p.2.2.1 ∧ p.2.2.1 ≤ lim + p.1) (0, keys2, c2, kb2, kcap2) ⟨Nat.zero_le _, rfl, hko2, hkg, hkc2, by simp only; omega⟩ ⟨rfl, rfl, rfl, rfl, rfl, rfl, rfl, rfl, rfl, rfl, rfl, rfl, trivial⟩ rfl ?_
            rintro ⟨j, keys3, c3, kb3, kcap3⟩ ⟨hj, hnk3, hko3, hkg3, hkc3, hc3⟩
            simp only at hj hnk3 hko3 hkg3 hkc3 hc3 ⊢
            repeat (first | refine aops_p tok rfl rfl rfl rfl ?_ | refine acode_seq ?_ | refine acode_region ?_)
            refine aops_ix tok (wyCC w) rfl rfl rfl rfl (by omega) (by omega) (by simp [wyCC, wyC]) hww rfl rfl rfl ?_
            repeat (first | refine aops_end ?_ | refine aops_p tok rfl rfl rfl rfl ?_)
            refine acode_id rfl (fun e2 => ?_) (fun e2 => ?_)
            · have hjl : j < w.2.length := by omega
              obtain ⟨y, hy⟩ : ∃ y, w.2[j]? = some y := ⟨w.2[j], List.getElem?_eq_getElem hjl⟩
              have hyg := hwg y (List.mem_of_getElem? hy)
              have hdy : w.2.drop j = y :: w.2.drop (j + 1) := by
                rw [List.drop_eq_getElem_cons hjl]
                rw [List.getElem?_eq_getElem hjl] at hy
                rw [Option.some.inj hy]
              rw [hdy, List.foldl_cons] at hnk3
              refine acode_somed 12 rfl (by omega) fun cb3 hcb3 => ?_
              subst hcb3
              repeat (first | refine aops_p tok rfl rfl rfl rfl ?_ | refine acode_seq ?_ | refine acode_region ?_ | refine acode_block ?_ | refine acode_skip ?_ | refine then_n ?_)
              refine aops_ix tok (wyCC w) rfl rfl rfl rfl (by omega) (by omega) (by simp [wyCC, wyC]) hww rfl rfl rfl ?_
              repeat (refine aops_p tok rfl rfl rfl rfl ?_)
              refine aops_ix tok (f3C y) rfl rfl rfl rfl (by omega) (by omega) (by simp [f3C]) (encs_at (e := f3C) (s := 3) (fun _ => rfl) (i := (j : Int).toNat) (by simpa using hy)) rfl rfl rfl ?_
              repeat (refine aops_p tok rfl rfl rfl rfl ?_)
              refine aops_alloc tok rfl rfl rfl rfl rfl rfl fun xb => ?_
              repeat (refine aops_stn tok rfl rfl rfl rfl rfl rfl rfl rfl rfl ?_)
              refine aops_pubref0 21 rfl ?_
              by_cases hy0 : 0 ≤ y.1
              · have hyk : kyOk N ks.length y := by
                  have h1 := hyg.1
                  have h2 := hyg.2 hy0
                  unfold kyOk; omega
                repeat' (first | refine aops_end ?_ | refine aops_pbt tok rfl (by first | omega | decide) rfl rfl rfl ?_ | refine aops_pet tok rfl (by omega) rfl rfl rfl ?_ | refine aops_p tok rfl rfl rfl rfl ?_ | refine acode_seq ?_ | refine acode_region ?_)
                try any_goals (exfalso; omega)
                refine aops_callx Try.func38 rfl rfl rfl rfl (acalls_view (.cons (.own (sz := 3) (.tail _ (.head _)) rfl (encs_len (e := f3C) (s := 3) (fun _ => rfl) keys3) (by decide) (VwL.rfl' _)) (.cons (.refl _) .nil)) (find_calls (by omega) []) rfl) rfl rfl rfl ?_
                by_cases hf : findF y keys3 0 < 0
                · rw [show newS (keys3, c3) y = (keys3 ++ [y], c3 + 1) by unfold newS; rw [if_pos ⟨hy0, hf⟩]] at hnk3
                  repeat' (first | refine aops_end ?_ | refine aops_pbt tok rfl (by first | omega | decide) rfl rfl rfl ?_ | refine aops_pet tok rfl (by omega) rfl rfl rfl ?_ | refine aops_p tok rfl rfl rfl rfl ?_ | refine acode_it rfl ?_ | refine acode_seq ?_ | refine acode_region ?_)
                  try any_goals (exfalso; omega)
                  refine aops_litn tok rfl rfl rfl rfl rfl rfl rfl ?_
                  refine aops_append tok 1 (m := 1) (ds := f3C y) rfl rfl rfl (.inl rfl) rfl rfl (encs_len (e := f3C) (s := 3) (fun _ => rfl) keys3) rfl rfl rfl (by show _ * 24 ≤ _; omega) (by omega) rfl rfl fun ob' cap' => ?_
                  repeat (first | refine aops_put rfl ?_ | refine aops_end ?_ | refine aops_endb ?_ | refine aops_a tok rfl (by omega) (by omega) rfl rfl rfl ?_ | refine aops_p tok rfl rfl rfl rfl ?_ | refine acode_region ?_ | refine then_n ?_)
                  refine ⟨(j + 1, keys3 ++ [y], c3 + 1, ob', cap'), ⟨by simp only; omega, hnk3, fun z hz => ?_, by simp only [List.length_append, List.length_singleton]; omega, by simp only [List.length_append, List.length_singleton]; omega, by simp only; omega⟩, by simp only; omega, ⟨rfl, rfl, rfl, rfl, rfl, by rw [List.length_append]; rfl, rfl, rfl, rfl, rfl, rfl, rfl, trivial⟩, by simp only [encs_app]; simp [encs]⟩
                  rcases List.mem_append.1 hz with h1 | h1
                  · exact hko3 z h1
                  · rw [List.mem_singleton.1 h1]; exact hyk
                · rw [show newS (keys3, c3) y = (keys3, c3) by unfold newS; rw [if_neg (fun h => hf h.2)]] at hnk3
                  repeat' (first | refine aops_end ?_ | refine aops_a tok rfl (by omega) (by omega) rfl rfl rfl ?_ | refine aops_pbf tok rfl (by first | omega | decide) rfl rfl rfl ?_ | refine aops_p tok rfl rfl rfl rfl ?_ | refine acode_if rfl ?_ | refine acode_region ?_ | refine acode_skip ?_ | refine then_n ?_ | refine block_n ?_)
                  try any_goals (exfalso; omega)
                  exact ⟨(j + 1, keys3, c3, some cb3, kcap3), ⟨by simp only; omega, hnk3, hko3, hkg3, hkc3, by simp only; omega⟩, by simp only; omega, ⟨rfl, rfl, rfl, rfl, rfl, rfl, rfl, rfl, rfl, rfl, rfl, rfl, trivial⟩, rfl⟩
              · rw [show newS (keys3, c3) y = (keys3, c3) by unfold newS; rw [if_neg (fun h => hy0 h.1)]] at hnk3
                repeat' (first | refine aops_end ?_ | refine aops_o rfl rfl rfl ?_ | refine aops_a tok rfl (by omega) (by omega) rfl rfl rfl ?_ | refine aops_pbf tok rfl (by first | omega | decide) rfl rfl rfl ?_ | refine aops_p tok rfl rfl rfl rfl ?_ | refine acode_if rfl ?_ | refine acode_seq ?_ | refine acode_region ?_ | refine acode_skip ?_ | refine then_n ?_ | refine block_n ?_)
                try any_goals (exfalso; omega)
                exact ⟨(j + 1, keys3, c3, some cb3, kcap3), ⟨by simp only; omega, hnk3, hko3, hkg3, hkc3, by simp only; omega⟩, by simp only; omega, ⟨rfl, rfl, rfl, rfl, rfl, rfl, rfl, rfl, rfl, rfl, rfl, rfl, trivial⟩, rfl⟩
            · obtain rfl : j = w.2.length := by omega
              rw [List.drop_length, List.foldl_nil] at hnk3
              rw [← hnk3] at hnk
              refine acode_exit ?_
              repeat (first | refine exit_then ?_ | refine exit_here ?_ | refine then_n ?_ | refine block_n ?_)
              repeat (first | refine aops_end ?_ | refine aops_a tok rfl (by omega) (by omega) rfl rfl rfl ?_ | refine aops_p tok rfl rfl rfl rfl ?_ | refine acode_region ?_)
              exact ⟨(k + 1, keys3, c3, kb3, kcap3), ⟨by simp only; omega, hnk, hko3, hkg3, hkc3, by simp only; omega⟩, by simp only; omega, ⟨rfl, rfl, rfl, rfl, rfl, rfl, rfl, rfl, rfl, rfl, rfl, trivial⟩, rfl⟩
          · have hfull : ∀ L : List Wy, L.foldl (newW lim) (keys2, c2) = (keys2, c2) := by
              intro L
              induction L with
              | nil => rfl
              | cons x L ih => rw [List.foldl_cons, show newW lim (keys2, c2) x = (keys2, c2) by unfold newW; rw [if_neg hcl2]]; exact ih
            rw [hfull] at hnk
            subst hnk
            repeat' (first | refine aops_end ?_ | refine aops_pbt tok rfl (by first | omega | decide) rfl rfl rfl ?_ | refine aops_pbf tok rfl (by first | omega | decide) rfl rfl rfl ?_ | refine aops_pet tok rfl (by omega) rfl rfl rfl ?_ | refine aops_p tok rfl rfl rfl rfl ?_ | refine acode_if rfl ?_ | refine acode_seq ?_ | refine acode_region ?_)
            try any_goals (exfalso; omega)
            refine acode_exit ?_
            repeat (first | refine exit_then ?_ | refine exit_here ?_ | refine then_n ?_)
            exact ⟨(kb2, kcap2), ⟨hko2, hkg, hkc2, hc2⟩, ⟨rfl, rfl, rfl, rfl, rfl, rfl, rfl, rfl, rfl, rfl, trivial⟩, rfl⟩
        · rw [List.drop_of_length_le (by omega), List.foldl_nil] at hnk
          subst hnk
          repeat' (first | refine aops_end ?_ | refine aops_o rfl rfl rfl ?_ | refine aops_pbf tok rfl (by first | omega | decide) rfl rfl rfl ?_ | refine aops_p tok rfl rfl rfl rfl ?_ | refine acode_if rfl ?_ | refine acode_seq ?_ | refine acode_region ?_)
          try any_goals (exfalso; omega)
          refine acode_exit ?_
          repeat (first | refine exit_then ?_ | refine exit_here ?_ | refine then_n ?_)
          exact ⟨(kb2, kcap2), ⟨hko2, hkg, hkc2, hc2⟩, ⟨rfl, rfl, rfl, rfl, rfl, rfl, rfl, rfl, rfl, rfl, trivial⟩, rfl⟩
      rintro ⟨kb2, kcap2⟩ ⟨hko2, hkg, hkc2, hc2⟩
      simp only at hko2 hkg hkc2 hc2 ⊢
      by_cases hov : nk.2 > lim
      · rw [if_pos hov] at hfin
        subst hfin
        simp only at hB
        repeat' (first | refine aops_end ?_ | refine aops_pbt tok rfl (by first | omega | decide) rfl rfl rfl ?_ | refine aops_p tok rfl rfl rfl rfl ?_ | refine acode_it rfl ?_ | refine acode_seq ?_ | refine acode_region ?_)
        try any_goals (exfalso; omega)
        refine aops_drop0 (aops_drop0 ?_)
        repeat (first | refine aops_end ?_ | refine aops_p tok rfl rfl rfl rfl ?_ | refine aops_stn tok rfl rfl rfl rfl rfl rfl rfl rfl rfl ?_)
        refine acode_freezeV (V := [⟨some fb, 2, [.nils, .int .i64 0]⟩]) [(6, .pp (foC ⟨[], 0⟩)), (7, .int .i64 0), (8, .int .i64 9)] ⟨.ref (.head _) (.cons .nils (.cons (.refl _) .nil)), .refl _, .refl _, trivial⟩ ?_
        refine acode_ret ?_
        repeat (first | refine ret_then ?_ | refine ret_block ?_)
        exact ⟨_, ⟨.inl ⟨0, 9, by omega, by rw [hB], rfl⟩, rfl⟩, _, rfl, resOf_pp tok rfl rfl rfl⟩
      · rw [if_neg hov] at hfin
        repeat' (first | refine aops_end ?_ | refine aops_pbf tok rfl (by first | omega | decide) rfl rfl rfl ?_ | refine aops_p tok rfl rfl rfl rfl ?_ | refine acode_if rfl ?_ | refine acode_seq ?_ | refine acode_region ?_ | refine acode_skip ?_ | refine then_n ?_)
        try any_goals (exfalso; omega)
        refine aops_litn tok rfl rfl rfl rfl rfl rfl rfl ?_
        refine aops_append tok 0 (m := 1) (ds := allW [mi.1]) rfl rfl rfl (.inl rfl) rfl rfl (by rw [allW_len, Nat.mul_one]) rfl rfl rfl (by show _ * 24 ≤ _; omega) (by omega) rfl rfl fun ab' acap' => ?_
        repeat (first | refine aops_put rfl ?_ | refine aops_end ?_ | refine aops_endb ?_ | refine aops_a tok rfl (by omega) (by omega) rfl rfl rfl ?_ | refine aops_p tok rfl rfl rfl rfl ?_ | refine acode_region ?_ | refine then_n ?_)
        refine ⟨(q', i + 1, nk.1, all ++ [mi.1], nk.2, (kb2, kcap2), (ab', acap')), ⟨hfin, by simp only; omega, by simp only; omega, by simp only [List.length_append, List.length_singleton]; omega, hkc2, by simp only; omega, hko2, by simp only; omega, fun z hz => ?_⟩, by simp only; omega, ⟨rfl, rfl, rfl, rfl, rfl, rfl, by rw [List.length_append]; rfl, rfl, rfl, trivial⟩, by simp [allW]⟩
        rcases List.mem_append.1 hz with h1 | h1
        · exact hall z h1
        · rw [List.mem_singleton.1 h1]; exact ⟨by omega, hmok⟩
    · have hie : i = keys.length := by omega
      rw [List.getElem?_eq_none (by omega)] at hfin
      simp only at hfin
      subst hfin
      simp only at hB
      refine acode_exit ?_
      repeat (first | refine exit_then ?_ | refine exit_here ?_ | refine then_n ?_)
      refine acode_pub0 13 1 rfl rfl (by rw [allW_len, Nat.mul_one]) rfl ?_
      refine acode_pub0 12 3 rfl rfl (encs_len (e := f3C) (s := 3) (fun _ => rfl) keys) rfl ?_
      repeat (first | refine aops_end ?_ | refine aops_p tok rfl rfl rfl rfl ?_ | refine acode_seq ?_ | refine acode_region ?_ | refine acode_block ?_)
      refine acode_freezeV (V := []) [(6, .ref fb 0), (11, .int .i64 ks.length), (12, .psl keys.length (encs f3C keys)), (13, .psl all.length (allW all)), (22, .psl 0 []), (23, .int .i64 0)] ⟨.refl _, .refl _, .refl _, .refl _, .nils, .refl _, trivial⟩ ?_
      have hkl : keys.length ≤ lim + 1 := by omega
      have hfo := bldF_ok (N := N) (n := ks.length) (lim := lim) hn hlim hkl hall
      have hbf : bldF keys all = ⟨(sortK aheadF keys).map (nodeN keys all (sortK aheadF keys)), findF (keys.getD 0 (0, 0, 0)) (sortK aheadF keys) 0⟩ := rfl
      have hom : ∀ z, z ∈ sortK aheadF keys → z ∈ keys := fun z hz => sortK_mem.1 hz
      have hord : keys.foldl (fun out x => insK aheadF x out) [] = sortK aheadF keys := rfl
      generalize sortK aheadF keys = order at *
      refine acode_loopS (ι := Nat × List Ky) (fun p => [(6, .ref fb 0), (11, .int .i64 ks.length), (12, .psl keys.length (encs f3C keys)), (13, .psl all.length (allW all)), (22, .psl p.2.length (encs f3C p.2)), (23, .int .i64 p.1)]) (fun _ => ⟨some fb, 2, [.nils, .int .i64 0]⟩ :: M) (fun p => keys.length - p.1) (fun p => p.1 ≤ keys.length ∧ p.2.length = p.1 ∧ (keys.drop p.1).foldl (fun out x => insK aheadF x out) p.2 = order) (0, []) ⟨Nat.zero_le _, rfl, hord⟩ ⟨rfl, rfl, rfl, rfl, rfl, rfl, trivial⟩ rfl ?_
      clear hord
      rintro ⟨i2, out⟩ ⟨hi2, hol, hfold⟩
      simp only at hi2 hol hfold ⊢
      repeat (first | refine aops_end ?_ | refine aops_p tok rfl rfl rfl rfl ?_ | refine acode_seq ?_ | refine acode_region ?_)
      refine acode_id rfl (fun e2 => ?_) (fun e2 => ?_)
      · have hil : i2 < keys.length := by omega
        obtain ⟨x, hx⟩ : ∃ x, keys[i2]? = some x := ⟨keys[i2], List.getElem?_eq_getElem hil⟩
        have hdx : keys.drop i2 = x :: keys.drop (i2 + 1) := by
          rw [List.drop_eq_getElem_cons hil]
          rw [List.getElem?_eq_getElem hil] at hx
          rw [Option.some.inj hx]
        rw [hdx, List.foldl_cons] at hfold
        have hil2 := insK_len aheadF x out
        repeat (first | refine acode_seq ?_ | refine acode_region ?_ | refine acode_block ?_ | refine acode_skip ?_ | refine then_n ?_ | refine block_n ?_)
        repeat (refine aops_p tok rfl rfl rfl rfl ?_)
        refine aops_end ?_
        refine acode_seq ?_
        refine acode_joinI (ι := Nat) (fun k => [(6, .ref fb 0), (11, .int .i64 ks.length), (12, .psl keys.length (encs f3C keys)), (13, .psl all.length (allW all)), (22, .psl out.length (encs f3C out)), (23, .int .i64 i2), (24, .int .i64 k)]) (fun _ => ⟨some fb, 2, [.nils, .int .i64 0]⟩ :: M) (fun k => k ≤ out.length ∧ insK aheadF x out = out.take k ++ x :: out.drop k) ?_ ?_
        · repeat (refine acode_block ?_)
          refine acode_loopS (ι := Nat) (fun k => [(6, .ref fb 0), (11, .int .i64 ks.length), (12, .psl keys.length (encs f3C keys)), (13, .psl all.length (allW all)), (22, .psl out.length (encs f3C out)), (23, .int .i64 i2), (24, .int .i64 k)]) (fun _ => ⟨some fb, 2, [.nils, .int .i64 0]⟩ :: M) (fun k => out.length - k) (fun k => k ≤ out.length ∧ insK aheadF x out = out.take k ++ insK aheadF x (out.drop k)) 0 ⟨Nat.zero_le _, by simp⟩ ⟨rfl, rfl, rfl, rfl, rfl, rfl, rfl, trivial⟩ rfl ?_
          rintro k ⟨hk1, hk2⟩
          by_cases hkl3 : k < out.length
          · obtain ⟨y, hy⟩ : ∃ y, out[k]? = some y := ⟨out[k], List.getElem?_eq_getElem hkl3⟩
            have hdy : out.drop k = y :: out.drop (k + 1) := by
              rw [List.drop_eq_getElem_cons hkl3]
              rw [List.getElem?_eq_getElem hkl3] at hy
              rw [Option.some.inj hy]
            rw [hdy, insK] at hk2
            repeat (refine acode_seq ?_)
            refine acode_drawT 15 mixed (by kernel_rfl) (by kernel_rfl) ?_
            repeat' (first | refine seqT_o rfl rfl rfl ?_ | (refine seqT_pd tok rfl rfl rfl rfl ?_ ?_ <;> intro e_) | refine seqT_p tok rfl rfl rfl rfl ?_)
            try any_goals (exfalso; omega)
            refine seqT_ix tok (f3C y) rfl rfl rfl rfl (by omega) (by omega) (by simp [f3C]) (encs_at (e := f3C) (s := 3) (fun _ => rfl) (i := (k : Int).toNat) (by simpa using hy)) rfl rfl rfl ?_
            repeat (refine seqT_p tok rfl rfl rfl rfl ?_)
            refine seqT_ix tok (f3C x) rfl rfl rfl rfl (by omega) (by omega) (by simp [f3C]) (encs_at (e := f3C) (s := 3) (fun _ => rfl) (i := (i2 : Int).toNat) (by simpa using hx)) rfl rfl rfl ?_
            repeat (refine seqT_p tok rfl rfl rfl rfl ?_)
            refine seqT_call _ Try.func39 rfl rfl rfl rfl (ahead_calls (a := y) (b := x) _) rfl rfl rfl ?_
            repeat (refine seqT_p tok rfl rfl rfl rfl ?_)
            refine SeqT.done ?_
            cases hlo : aheadF y x with
            | true =>
              rw [hlo, if_pos rfl] at hk2
              repeat' (first | refine aops_end ?_ | refine aops_endb ?_ | refine aops_a tok rfl (by omega) (by omega) rfl rfl rfl ?_ | refine aops_p tok rfl rfl rfl rfl ?_ | refine acode_it rfl ?_ | refine acode_region ?_ | refine acode_block ?_ | refine acode_skip ?_ | refine then_n ?_)
              exact ⟨k + 1, ⟨by omega, by rw [hk2, List.take_add_one, hy]; simp⟩, by omega, ⟨rfl, rfl, rfl, rfl, rfl, rfl, rfl, trivial⟩, rfl⟩
            | false =>
              rw [hlo, if_neg (by simp)] at hk2
              repeat' (first | refine aops_end ?_ | refine acode_if rfl ?_)
              refine acode_exit ?_
              repeat (first | refine exit_then ?_ | refine exit_here ?_ | refine then_n ?_)
              exact ⟨k, ⟨hk1, by rw [hk2, hdy]⟩, ⟨rfl, rfl, rfl, rfl, rfl, rfl, rfl, trivial⟩, rfl⟩
          · rw [List.drop_of_length_le (show out.length ≤ k by omega), insK] at hk2
            repeat (refine acode_seq ?_)
            refine acode_drawT 15 mixed (by kernel_rfl) (by kernel_rfl) ?_
            repeat' (first | refine seqT_o rfl rfl rfl ?_ | (refine seqT_pd tok rfl rfl rfl rfl ?_ ?_ <;> intro e_) | refine seqT_p tok rfl rfl rfl rfl ?_)
            try any_goals (exfalso; omega)
            refine SeqT.done ?_
            repeat' (first | refine aops_end ?_ | refine acode_if rfl ?_)
            refine acode_exit ?_
            repeat (first | refine exit_then ?_ | refine exit_here ?_ | refine then_n ?_)
            exact ⟨k, ⟨hk1, by rw [hk2, List.drop_of_length_le (by omega)]⟩, ⟨rfl, rfl, rfl, rfl, rfl, rfl, rfl, trivial⟩, rfl⟩
        rintro k ⟨hk1, hk2⟩
        rw [hk2] at hfold hil2
        skip
        refine acode_drawP [] 14 [0, 1, 2, 4, 5, 6, 7, 8, 10, 11, 12, 3, 9, 13] [11, 12, 13] mixed (by kernel_rfl) (by kernel_rfl) rfl ?_
        repeat (refine seqO_p tok rfl rfl rfl rfl rfl ?_)
        refine seqO_slc tok (out.take k).length (encs f3C (out.take k)) rfl rfl rfl rfl rfl rfl (by omega) (by omega) (by omega) (by rw [List.length_take, Nat.min_eq_left hk1]; omega) (encs_len (e := f3C) (s := 3) (fun _ => rfl) out) (encs_cut (e := f3C) (s := 3) (fun _ => rfl) out k) rfl rfl rfl ?_
        repeat (refine seqO_p tok rfl rfl rfl rfl rfl ?_)
        refine seqO_ix tok (f3C x) rfl rfl rfl rfl rfl (by omega) (by omega) (by simp [f3C]) (encs_at (e := f3C) (s := 3) (fun _ => rfl) (i := (i2 : Int).toNat) (by simpa using hx)) rfl rfl rfl ?_
        repeat (refine seqO_p tok rfl rfl rfl rfl rfl ?_)
        refine seqO_lit tok rfl rfl rfl rfl rfl rfl rfl rfl rfl ?_
        repeat (refine seqO_p tok rfl rfl rfl rfl rfl ?_)
        refine seqO_slc tok (out.drop k).length (encs f3C (out.drop k)) rfl rfl rfl rfl rfl rfl (by omega) (by omega) (by omega) (by rw [List.length_drop]; omega) (encs_len (e := f3C) (s := 3) (fun _ => rfl) out) (encs_rest (e := f3C) (s := 3) (fun _ => rfl) out k (by omega)) rfl rfl rfl ?_
        refine seqO_appn tok rfl rfl rfl rfl rfl (encs_len (e := f3C) (s := 3) (fun _ => rfl) _) (encs_cell (fun _ => rfl) _) rfl (by show _ * 24 ≤ _; rw [List.length_take]; omega) (by rw [List.length_take]; omega) (by simp) rfl rfl rfl fun ob' cap' => ?_
        refine seqO_app tok 0 (m := 1) (ds := f3C x) rfl rfl rfl rfl (.inl rfl) rfl rfl (encs_len (e := f3C) (s := 3) (fun _ => rfl) _) rfl rfl rfl (by show _ * 24 ≤ _; rw [List.length_take]; omega) (by rw [List.length_take]; omega) (by simp) rfl rfl rfl fun ob2 cap2 => ?_
        refine seqO_appz tok 0 (m := (out.drop k).length) (ds := encs f3C (out.drop k)) rfl rfl rfl rfl rfl rfl rfl (by rw [List.length_append, encs_len (e := f3C) (s := 3) (fun _ => rfl)]; show _ = _ * 3; rw [Nat.add_mul]; rfl) (encs_len (e := f3C) (s := 3) (fun _ => rfl) _) (encs_cell (fun _ => rfl) _) rfl (by show _ * 24 ≤ _; rw [List.length_take, List.length_drop]; omega) (by rw [List.length_take, List.length_drop]; omega) (by simp) rfl rfl rfl ?_
        refine SeqO.done ?_
        repeat (first | refine aops_end ?_ | refine aops_endb ?_ | refine aops_a tok rfl (by omega) (by omega) rfl rfl rfl ?_ | refine aops_p tok rfl rfl rfl rfl ?_ | refine acode_region ?_ | refine then_n ?_)
        refine ⟨(i2 + 1, out.take k ++ x :: out.drop k), ⟨by simp only; omega, by simp only [hil2]; omega, hfold⟩, by simp only; omega, ⟨rfl, rfl, rfl, rfl, ?_, rfl, trivial⟩, rfl⟩
        show A.psl _ _ = A.psl _ _
        rw [encs_app]
        congr 1
        · simp; omega
        · simp [encs]
      · obtain rfl : i2 = keys.length := by omega
        rw [List.drop_length, List.foldl_nil] at hfold
        subst hfold
        refine acode_exit ?_
        repeat (first | refine exit_then ?_ | refine exit_here ?_ | refine then_n ?_)
        obtain ⟨k0, hk0⟩ : ∃ k0, keys[0]? = some k0 := ⟨keys[0], List.getElem?_eq_getElem hk1⟩
        have hk00 : keys.getD 0 (0, 0, 0) = k0 := by rw [List.getD_eq_getElem?_getD, hk0]; rfl
        rw [hk00] at hbf
        repeat (first | refine aops_p tok rfl rfl rfl rfl ?_ | refine acode_seq ?_ | refine acode_region ?_)
        refine aops_ix tok (f3C k0) rfl rfl rfl rfl (by omega) (by omega) (by simp [f3C]) (encs_at (e := f3C) (s := 3) (fun _ => rfl) (i := (0 : Int).toNat) (by simpa using hk0)) rfl rfl rfl ?_
        repeat (refine aops_p tok rfl rfl rfl rfl ?_)
        refine aops_callx Try.func38 rfl rfl rfl rfl (find_calls (by omega) _) rfl rfl rfl ?_
        generalize findF k0 out 0 = root at *
        repeat (refine aops_p tok rfl rfl rfl rfl ?_)
        refine aops_alloc tok rfl rfl rfl rfl rfl rfl fun gb => ?_
        repeat (refine aops_stn tok rfl rfl rfl rfl rfl rfl rfl rfl rfl ?_)
        refine aops_adoptF 0 rfl rfl ?_
        repeat (first | refine aops_end ?_ | refine aops_p tok rfl rfl rfl rfl ?_ | refine acode_seq ?_ | refine acode_region ?_ | refine acode_block ?_)
        generalize hnds : out.map (nodeN keys all out) = nds at hbf
        have hndl : nds.length = out.length := by rw [← hnds, List.length_map]
        refine acode_loopS (ι := Nat × Option Nat × Nat) (fun p => [(6, .ref fb 0), (11, .int .i64 ks.length), (12, .psl keys.length (encs f3C keys)), (13, .psl all.length (allW all)), (22, .psl out.length (encs f3C out)), (25, .ref gb 0), (26, .int .i64 p.1)]) (fun p => ⟨some gb, 2, [.own p.2.1 p.1 p.2.2, .int .i64 root]⟩ :: ⟨p.2.1, p.2.2 * 4, encs ndC (nds.take p.1)⟩ :: ⟨some fb, 2, [.nils, .int .i64 0]⟩ :: M) (fun p => out.length - p.1) (fun p => p.1 ≤ out.length) (0, none, 0) (Nat.zero_le _) ⟨rfl, rfl, rfl, rfl, rfl, rfl, rfl, trivial⟩ rfl ?_
        rintro ⟨i, nob, ncap⟩ hi
        simp only at hi ⊢
        repeat (first | refine aops_end ?_ | refine aops_p tok rfl rfl rfl rfl ?_ | refine acode_seq ?_ | refine acode_region ?_)
        refine acode_id rfl (fun e3 => ?_) (fun e3 => ?_)
        · have hil : i < out.length := by omega
          obtain ⟨k, hk⟩ : ∃ k, out[i]? = some k := ⟨out[i], List.getElem?_eq_getElem hil⟩
          have hka := encs_at (e := f3C) (s := 3) (fun _ => rfl) (i := (i : Int).toNat) (by simpa using hk)
          have hkm := hom k (List.mem_of_getElem? hk)
          obtain ⟨hf1, hf2, hf3⟩ := findF_at hkm
          obtain ⟨m, hm⟩ : ∃ m, all[(findF k keys 0).toNat]? = some m := ⟨all[(findF k keys 0).toNat]'(by omega), List.getElem?_eq_getElem (by omega)⟩
          obtain ⟨hm1, hm2⟩ := hall m (List.mem_of_getElem? hm)
          have hnd : nodeN keys all out k = ⟨k.1, k.2.1, k.2.2, sortK lowF (m.map (altN out))⟩ := by
            unfold nodeN; rw [List.getD_eq_getElem?_getD, hm]; rfl
          have hndi : nds[i]? = some ⟨k.1, k.2.1, k.2.2, sortK lowF (m.map (altN out))⟩ := by rw [← hnds, List.getElem?_map, hk, ← hnd]; rfl
          have htk : nds.take (i + 1) = nds.take i ++ [⟨k.1, k.2.1, k.2.2, sortK lowF (m.map (altN out))⟩] := by rw [List.take_add_one, hndi]; rfl
          have hma : [A.psl m.length (encs wyCC m)] <+: (allW all).drop ((findF k keys 0).toNat * 1) := by
            rw [Nat.mul_one]
            have : (allW all)[(findF k keys 0).toNat]? = some (A.psl m.length (encs wyCC m)) := by unfold allW; rw [List.getElem?_map, hm]; rfl
            rw [List.drop_eq_getElem_cons (List.getElem?_eq_some_iff.1 this).1, (List.getElem?_eq_some_iff.1 this).2]; exact ⟨_, rfl⟩
          repeat (first | refine acode_seq ?_ | refine acode_region ?_ | refine acode_block ?_ | refine acode_skip ?_ | refine then_n ?_ | refine block_n ?_)
          refine acode_drawP [] 17 [0, 1, 2, 3, 4, 5, 6, 7, 8, 9, 10, 11, 12, 13, 14, 15, 16] [16] mixed (by kernel_rfl) (by kernel_rfl) rfl ?_
          repeat (refine seqO_p tok rfl rfl rfl rfl rfl ?_)
          refine seqO_ix tok (f3C k) rfl rfl rfl rfl rfl (by omega) (by omega) (by simp [f3C]) hka rfl rfl rfl ?_
          repeat (refine seqO_p tok rfl rfl rfl rfl rfl ?_)
          refine seqO_ix tok (f3C k) rfl rfl rfl rfl rfl (by omega) (by omega) (by simp [f3C]) hka rfl rfl rfl ?_
          repeat (refine seqO_p tok rfl rfl rfl rfl rfl ?_)
          refine seqO_ix tok (f3C k) rfl rfl rfl rfl rfl (by omega) (by omega) (by simp [f3C]) hka rfl rfl rfl ?_
          repeat (refine seqO_p tok rfl rfl rfl rfl rfl ?_)
          refine seqO_alloc tok rfl rfl rfl (by simp) rfl rfl rfl rfl fun nb => ?_
          refine SeqO.done ?_
          repeat (refine aops_stn tok rfl rfl rfl rfl rfl rfl rfl rfl rfl ?_)
          refine aops_adoptF 3 rfl rfl ?_
          repeat (first | refine aops_end ?_ | refine aops_p tok rfl rfl rfl rfl ?_ | refine acode_seq ?_ | refine acode_region ?_)
          refine aops_ix tok (f3C k) rfl rfl rfl rfl (by omega) (by omega) (by simp [f3C]) hka rfl rfl rfl ?_
          repeat (refine aops_p tok rfl rfl rfl rfl ?_)
          refine aops_callx Try.func38 rfl rfl rfl rfl (find_calls (by omega) _) rfl rfl rfl ?_
          skip
          refine aops_ix tok [A.psl m.length (encs wyCC m)] rfl rfl rfl rfl hf2 (by omega) (by simp) hma rfl rfl rfl ?_
          repeat (first | refine aops_end ?_ | refine aops_p tok rfl rfl rfl rfl ?_ | refine acode_seq ?_ | refine acode_region ?_ | refine acode_block ?_)
          generalize hals : m.map (altN out) = als at *
          have halsl : als.length = m.length := by rw [← hals, List.length_map]
          have hsc := fun M => sorted_calls (l := als) (by omega) (fun a ha => by
            rw [← hals] at ha
            obtain ⟨w, hw, rfl⟩ := List.mem_map.1 ha
            have := (hm2 w hw).1
            show (w.2.map (kidN out)).length ≤ _
            rw [List.length_map]; omega) M
          rw [halsl] at hsc
          refine acode_loopS (ι := Nat × Option Nat × Nat) (fun p => [(6, .ref fb 0), (11, .int .i64 ks.length), (12, .psl keys.length (encs f3C keys)), (13, .psl all.length (allW all)), (22, .psl out.length (encs f3C out)), (25, .ref gb 0), (26, .int .i64 i), (27, .ref nb 0), (28, .psl m.length (encs wyCC m)), (29, .int .i64 p.1)]) (fun p => ⟨some nb, 4, [.int .i64 k.1, .int .i64 k.2.1, .int .i64 k.2.2, .own p.2.1 p.1 p.2.2]⟩ :: ⟨p.2.1, p.2.2 * 2, encs alC (als.take p.1)⟩ :: ⟨some gb, 2, [.own nob i ncap, .int .i64 root]⟩ :: ⟨nob, ncap * 4, encs ndC (nds.take i)⟩ :: ⟨some fb, 2, [.nils, .int .i64 0]⟩ :: M) (fun p => m.length - p.1) (fun p => p.1 ≤ m.length) (0, none, 0) (Nat.zero_le _) ⟨rfl, rfl, rfl, rfl, rfl, rfl, rfl, rfl, rfl, rfl, trivial⟩ rfl ?_
          rintro ⟨k2, aob, acap2⟩ hk2
          simp only at hk2 ⊢
          repeat (first | refine aops_end ?_ | refine aops_p tok rfl rfl rfl rfl ?_ | refine acode_seq ?_ | refine acode_region ?_)
          refine acode_id rfl (fun e4 => ?_) (fun e4 => ?_)
          · have hkl2 : k2 < m.length := by omega
            obtain ⟨w, hw⟩ : ∃ w, m[k2]? = some w := ⟨m[k2], List.getElem?_eq_getElem hkl2⟩
            obtain ⟨hw8, hwg⟩ := hm2 w (List.mem_of_getElem? hw)
            have hww := encs_at (e := wyCC) (s := 2) (fun _ => rfl) (i := (k2 : Int).toNat) (by simpa using hw)
            have hali : als[k2]? = some (altN out w) := by rw [← hals, List.getElem?_map, hw]; rfl
            have htk2 : als.take (k2 + 1) = als.take k2 ++ [altN out w] := by rw [List.take_add_one, hali]; rfl
            have halw : alC (altN out w) = [.int .i64 w.1, .psl (w.2.map (kidN out)).length (ints (w.2.map (kidN out)))] := rfl
            repeat (first | refine aops_p tok rfl rfl rfl rfl ?_ | refine acode_seq ?_ | refine acode_region ?_ | refine acode_block ?_ | refine acode_skip ?_ | refine then_n ?_)
            refine aops_ix tok (wyCC w) rfl rfl rfl rfl (by omega) (by omega) (by simp [wyCC, wyC]) hww rfl rfl rfl ?_
            repeat (refine aops_p tok rfl rfl rfl rfl ?_)
            refine aops_alloc tok rfl rfl rfl rfl rfl rfl fun lb => ?_
            repeat (refine aops_stn tok rfl rfl rfl rfl rfl rfl rfl rfl rfl ?_)
            refine aops_adoptF 1 rfl rfl ?_
            repeat (first | refine aops_end ?_ | refine aops_p tok rfl rfl rfl rfl ?_ | refine acode_seq ?_ | refine acode_region ?_ | refine acode_block ?_)
            generalize hkds : w.2.map (kidN out) = kds at halw
            have hkdl : kds.length = w.2.length := by rw [← hkds, List.length_map]
            rw [hkdl] at halw
            refine acode_loopS (ι := Nat × Option Nat × Nat) (fun p => [(6, .ref fb 0), (11, .int .i64 ks.length), (12, .psl keys.length (encs f3C keys)), (13, .psl all.length (allW all)), (22, .psl out.length (encs f3C out)), (25, .ref gb 0), (26, .int .i64 i), (27, .ref nb 0), (28, .psl m.length (encs wyCC m)), (29, .int .i64 k2), (30, .ref lb 0), (31, .int .i64 p.1)]) (fun p => ⟨some lb, 2, [.int .i64 w.1, .own p.2.1 p.1 p.2.2]⟩ :: ⟨p.2.1, p.2.2 * 1, ints (kds.take p.1)⟩ :: ⟨some nb, 4, [.int .i64 k.1, .int .i64 k.2.1, .int .i64 k.2.2, .own aob k2 acap2]⟩ :: ⟨aob, acap2 * 2, encs alC (als.take k2)⟩ :: ⟨some gb, 2, [.own nob i ncap, .int .i64 root]⟩ :: ⟨nob, ncap * 4, encs ndC (nds.take i)⟩ :: ⟨some fb, 2, [.nils, .int .i64 0]⟩ :: M) (fun p => w.2.length - p.1) (fun p => p.1 ≤ w.2.length) (0, none, 0) (Nat.zero_le _) ⟨rfl, rfl, rfl, rfl, rfl, rfl, rfl, rfl, rfl, rfl, rfl, rfl, trivial⟩ rfl ?_
            rintro ⟨j, kob, kcap2⟩ hj
            simp only at hj ⊢
            repeat (first | refine aops_p tok rfl rfl rfl rfl ?_ | refine acode_seq ?_ | refine acode_region ?_)
            refine aops_ix tok (wyCC w) rfl rfl rfl rfl (by omega) (by omega) (by simp [wyCC, wyC]) hww rfl rfl rfl ?_
            repeat (first | refine aops_end ?_ | refine aops_p tok rfl rfl rfl rfl ?_)
            refine acode_id rfl (fun e5 => ?_) (fun e5 => ?_)
            · have hjl : j < w.2.length := by omega
              obtain ⟨y, hy⟩ : ∃ y, w.2[j]? = some y := ⟨w.2[j], List.getElem?_eq_getElem hjl⟩
              have hyg := hwg y (List.mem_of_getElem? hy)
              have hkdi : kds[j]? = some (kidN out y) := by rw [← hkds, List.getElem?_map, hy]; rfl
              have htk3 : kds.take (j + 1) = kds.take j ++ [kidN out y] := by rw [List.take_add_one, hkdi]; rfl
              repeat (first | refine aops_p tok rfl rfl rfl rfl ?_ | refine acode_seq ?_ | refine acode_region ?_ | refine acode_block ?_ | refine acode_skip ?_ | refine then_n ?_)
              refine aops_ix tok (wyCC w) rfl rfl rfl rfl (by omega) (by omega) (by simp [wyCC, wyC]) hww rfl rfl rfl ?_
              repeat (refine aops_p tok rfl rfl rfl rfl ?_)
              refine aops_ix tok (f3C y) rfl rfl rfl rfl (by omega) (by omega) (by simp [f3C]) (encs_at (e := f3C) (s := 3) (fun _ => rfl) (i := (j : Int).toNat) (by simpa using hy)) rfl rfl rfl ?_
              repeat (refine aops_p tok rfl rfl rfl rfl ?_)
              refine aops_alloc tok rfl rfl rfl rfl rfl rfl fun xb => ?_
              repeat (refine aops_stn tok rfl rfl rfl rfl rfl rfl rfl rfl rfl ?_)
              refine aops_pubref0 32 rfl ?_
              by_cases hy0 : y.1 < 0
              · have hkid : kidN out y = -1 - y.2.1 := by unfold kidN; rw [if_pos hy0]
                have hyg1 := hyg.1
                repeat' (first | refine aops_end ?_ | refine aops_a tok rfl (by omega) (by omega) rfl rfl rfl ?_ | refine aops_pbt tok rfl (by first | omega | decide) rfl rfl rfl ?_ | refine aops_p tok rfl rfl rfl rfl ?_ | refine acode_it rfl ?_ | refine aops_ld tok 0 rfl rfl rfl rfl rfl rfl rfl rfl ?_ | refine acode_seq ?_ | refine acode_region ?_)
                try any_goals (exfalso; omega)
                refine aops_litn tok rfl rfl rfl rfl rfl rfl rfl ?_
                refine aops_append tok 1 (m := 1) (ds := ints [-1 - y.2.1]) rfl rfl rfl (.inl rfl) rfl rfl (by rw [ints_len, List.length_take, hkdl, Nat.min_eq_left (by omega)]; exact (Nat.mul_one _).symm) rfl rfl rfl (by show _ * 8 ≤ _; omega) (by omega) rfl rfl fun ob' cap' => ?_
                refine aops_put rfl ?_
                refine aops_somed 284 rfl (by omega) fun c hc => ?_
                subst hc
                repeat (first | refine aops_end ?_ | refine aops_endb ?_ | refine aops_a tok rfl (by omega) (by omega) rfl rfl rfl ?_ | refine aops_p tok rfl rfl rfl rfl ?_ | refine aops_stn tok rfl rfl rfl rfl rfl rfl rfl rfl rfl ?_ | refine acode_region ?_ | refine then_n ?_)
                refine ⟨(j + 1, some c, cap'), by simp only; omega, by simp only; omega, ⟨rfl, rfl, rfl, rfl, rfl, rfl, rfl, rfl, rfl, rfl, rfl, rfl, trivial⟩, ?_⟩
                simp only [htk3, hkid, ints_app]
                rfl
              · have hkid : kidN out y = findF y out 0 := by unfold kidN; rw [if_neg hy0]
                repeat' (first | refine aops_end ?_ | refine aops_pbf tok rfl (by first | omega | decide) rfl rfl rfl ?_ | refine aops_p tok rfl rfl rfl rfl ?_ | refine acode_if rfl ?_ | refine acode_seq ?_ | refine acode_region ?_)
                try any_goals (exfalso; omega)
                refine acode_drawP [⟨some lb, 2, [.int .i64 w.1, .own kob j kcap2]⟩] 8 [0, 1, 2, 3, 4, 5, 6, 7] [6] mixed (by kernel_rfl) (by kernel_rfl) rfl ?_
                repeat (first | refine seqO_p tok rfl rfl rfl rfl rfl ?_ | refine seqO_ld tok 0 rfl rfl rfl rfl rfl (by simp) rfl rfl rfl rfl ?_)
                refine seqO_call _ rfl Try.func38 rfl rfl rfl rfl (fun M => find_calls (by omega) M) rfl rfl rfl ?_
                refine seqO_lit tok rfl rfl rfl rfl rfl rfl rfl rfl rfl ?_
                refine seqO_app tok 1 (m := 1) (ds := ints [findF y out 0]) rfl rfl rfl rfl (.inl rfl) rfl rfl (by rw [ints_len, List.length_take, hkdl, Nat.min_eq_left (by omega)]; exact (Nat.mul_one _).symm) rfl rfl rfl (by show _ * 8 ≤ _; omega) (by omega) (by intro y o ho; simp at ho ⊢; simp [ho]) rfl rfl rfl fun ob' cap' => ?_
                repeat (refine seqO_p tok rfl rfl rfl rfl rfl ?_)
                refine SeqO.done ?_
                refine aops_somed 292 rfl (by omega) fun c hc => ?_
                subst hc
                refine aops_stk tok 0 [.int .i64 w.1, .own (some c) (j + 1) cap'] _ rfl rfl rfl rfl rfl rfl (show 1 + 1 ≤ 2 from by decide) rfl rfl rfl rfl ?_
                repeat (first | refine aops_end ?_ | refine aops_endb ?_ | refine aops_a tok rfl (by omega) (by omega) rfl rfl rfl ?_ | refine aops_p tok rfl rfl rfl rfl ?_ | refine acode_region ?_ | refine then_n ?_)
                refine ⟨(j + 1, some c, cap'), by simp only; omega, by simp only; omega, ⟨rfl, rfl, rfl, rfl, rfl, rfl, rfl, rfl, rfl, rfl, rfl, rfl, trivial⟩, ?_⟩
                simp only [htk3, hkid, ints_app]
                rfl
            · obtain rfl : j = w.2.length := by omega
              rw [List.take_of_length_le (show kds.length ≤ w.2.length by omega)]
              refine acode_exit ?_
              repeat (first | refine exit_then ?_ | refine exit_here ?_ | refine then_n ?_)
              refine acode_pubFld (sz := 1) 1 rfl rfl (by rw [ints_len, hkdl, Nat.mul_one]) (by decide) rfl ?_
              refine acode_pubref0 30 rfl ?_
              repeat (first | refine aops_p tok rfl rfl rfl rfl ?_ | refine aops_ld tok 0 rfl rfl rfl rfl rfl rfl rfl rfl ?_ | refine acode_region ?_)
              refine aops_litn tok rfl rfl rfl rfl rfl rfl rfl ?_
              refine aops_append tok 1 (m := 1) (ds := [.int .i64 w.1, .psl w.2.length (ints kds)]) rfl rfl rfl (.inl rfl) rfl rfl (by rw [encs_len alK_len, List.length_take, halsl, Nat.min_eq_left (by omega)]) rfl rfl rfl (by show _ * 32 ≤ _; omega) (by omega) rfl rfl fun ob' cap' => ?_
              refine aops_put rfl ?_
              refine aops_somed 298 rfl (by omega) fun c hc => ?_
              subst hc
              repeat (first | refine aops_end ?_ | refine aops_endb ?_ | refine aops_a tok rfl (by omega) (by omega) rfl rfl rfl ?_ | refine aops_p tok rfl rfl rfl rfl ?_ | refine aops_stn tok rfl rfl rfl rfl rfl rfl rfl rfl rfl ?_ | refine acode_region ?_ | refine then_n ?_)
              refine ⟨(k2 + 1, some c, cap'), by simp only; omega, by simp only; omega, ⟨rfl, rfl, rfl, rfl, rfl, rfl, rfl, rfl, rfl, rfl, trivial⟩, ?_⟩
              simp only [htk2, encs_app]
              rw [show encs alC [altN out w] = alC (altN out w) by simp [encs], halw]
              rfl
          · obtain rfl : k2 = m.length := by omega
            rw [List.take_of_length_le (show als.length ≤ m.length by omega)]
            refine acode_exit ?_
            repeat (first | refine exit_then ?_ | refine exit_here ?_ | refine then_n ?_)
            refine acode_pubFld (sz := 2) 3 rfl rfl (by rw [encs_len alK_len, halsl]) (by decide) rfl ?_
            repeat (first | refine aops_p tok rfl rfl rfl rfl ?_ | refine aops_ld tok 0 rfl rfl rfl rfl rfl rfl rfl rfl ?_ | refine acode_seq ?_ | refine acode_region ?_)
            refine aops_callx Try.func40 rfl rfl rfl rfl (hsc _) rfl rfl rfl ?_
            generalize sortK lowF als = sal at *
            repeat (first | refine aops_p tok rfl rfl rfl rfl ?_ | refine aops_stn tok rfl rfl rfl rfl rfl rfl rfl rfl rfl ?_)
            try (refine aops_stk tok 0 [.int .i64 k.1, .int .i64 k.2.1, .int .i64 k.2.2, .psl sal.length (encs alC sal)] _ rfl rfl rfl rfl rfl rfl (show 3 + 1 ≤ 4 from by decide) rfl rfl rfl rfl ?_)
            refine aops_end ?_
            refine acode_pubref0 27 rfl ?_
            repeat (first | refine aops_p tok rfl rfl rfl rfl ?_ | refine aops_ld tok 0 rfl rfl rfl rfl rfl rfl rfl rfl ?_ | refine acode_region ?_)
            refine aops_litn tok rfl rfl rfl rfl rfl rfl rfl ?_
            refine aops_append tok 1 (m := 1) (ds := ndC ⟨k.1, k.2.1, k.2.2, sal⟩) rfl rfl rfl (.inl rfl) rfl rfl (by rw [encs_len ndK_len, List.length_take, hndl, Nat.min_eq_left (by omega)]) rfl rfl rfl (by show _ * 48 ≤ _; omega) (by omega) rfl rfl fun ob' cap' => ?_
            refine aops_put rfl ?_
            refine aops_somed 308 rfl (by omega) fun c hc => ?_
            subst hc
            repeat (first | refine aops_end ?_ | refine aops_endb ?_ | refine aops_a tok rfl (by omega) (by omega) rfl rfl rfl ?_ | refine aops_p tok rfl rfl rfl rfl ?_ | refine aops_stn tok rfl rfl rfl rfl rfl rfl rfl rfl rfl ?_ | refine acode_region ?_ | refine then_n ?_)
            refine ⟨(i + 1, some c, cap'), by simp only; omega, by simp only; omega, ⟨rfl, rfl, rfl, rfl, rfl, rfl, rfl, trivial⟩, ?_⟩
            simp only [htk, encs_app]
            rw [show encs ndC [⟨k.1, k.2.1, k.2.2, sal⟩] = ndC ⟨k.1, k.2.1, k.2.2, sal⟩ by simp [encs]]
            rfl
        · obtain rfl : i = out.length := by omega
          have htk : nds.take out.length = nds := List.take_of_length_le (by omega)
          rw [htk]
          refine acode_exit ?_
          repeat (first | refine exit_then ?_ | refine exit_here ?_ | refine then_n ?_)
          refine acode_pubFld (sz := 4) 0 rfl rfl (by rw [encs_len ndK_len, hndl]) (by decide) rfl ?_
          refine acode_pubref0 25 rfl ?_
          repeat (first | refine aops_end ?_ | refine aops_p tok rfl rfl rfl rfl ?_ | refine aops_stn tok rfl rfl rfl rfl rfl rfl rfl rfl rfl ?_ | refine acode_seq ?_ | refine acode_region ?_)
          refine acode_pubref0 6 rfl ?_
          refine acode_ret ?_
          skip
          exact ⟨_, ⟨.inr ⟨bldF keys all, by rw [hB], hfo.1, hfo.2, rfl⟩, rfl⟩, _, rfl, resOf_pp tok rfl rfl (by rw [hbf, ← hndl]; rfl)⟩
end Go.Proofs.Ytbnhmioijeagiaa.Ab
/- Rows of rules in their order, trees held against each other, in plain terms: the best of a node's picks is the least of its trees that may be. No condition. -/
set_option linter.unusedVariables false
set_option linter.unusedSimpArgs false
namespace Go.Proofs.Ytbnhmioijeagiaa.Ab

theorem cmpI'_swap (x y : Int) : cmpI' y x = - cmpI' x y := by unfold cmpI'; split <;> split <;> (try split) <;> omega
theorem cmpL_swap : ∀ a b : List Int, cmpL b a = - cmpL a b
  | [], [] => rfl
  | [], _ :: _ => rfl
  | _ :: _, [] => rfl
  | x :: a, y :: b => by
    simp only [cmpL]
    by_cases h : x = y
    · rw [if_pos h, if_pos h.symm]; exact cmpL_swap a b
    · rw [if_neg h, if_neg (fun e => h e.symm)]; exact cmpI'_swap x y
theorem cmpL_eq : ∀ {a b : List Int}, cmpL a b = 0 → a = b
  | [], [], _ => rfl
  | [], _ :: _, h => by simp [cmpL] at h
  | _ :: _, [], h => by simp [cmpL] at h
  | x :: a, y :: b, h => by
    simp only [cmpL] at h
    split at h
    · rename_i e; rw [e, cmpL_eq h]
    · rename_i e
      unfold cmpI' at h
      split at h
      · omega
      · split at h <;> omega
theorem cmpL_trans : ∀ {a b c : List Int}, cmpL a b ≤ 0 → cmpL b c ≤ 0 → cmpL a c ≤ 0
  | [], _, [], _, _ => by simp [cmpL]
  | [], _, _ :: _, _, _ => by simp [cmpL]
  | _ :: _, [], _, h, _ => by simp [cmpL] at h
  | _ :: _, _ :: _, [], _, h => by simp [cmpL] at h
  | x :: a, y :: b, z :: c, h, h2 => by
    simp only [cmpL] at h h2 ⊢
    by_cases e : x = y
    · by_cases e2 : y = z
      · rw [if_pos e] at h
        rw [if_pos e2] at h2
        rw [if_pos (e.trans e2)]
        exact cmpL_trans h h2
      · rw [if_neg e2] at h2
        rw [if_neg (fun q => e2 (e.symm.trans q)), e]; exact h2
    · rw [if_neg e] at h
      by_cases e2 : y = z
      · rw [if_neg (fun q => e (q.trans e2.symm)), ← e2]; exact h
      · rw [if_neg e2] at h2
        have h1 : x < y := by unfold cmpI' at h; split at h; · assumption
                              · split at h <;> omega
        have h3 : y < z := by unfold cmpI' at h2; split at h2; · assumption
                              · split at h2 <;> omega
        rw [if_neg (by omega)]
        unfold cmpI'; rw [if_pos (by omega)]; omega
theorem cmpL_lt_app : ∀ {a b : List Int}, cmpL a b < 0 → (∀ u v, a ++ u = b ++ v → a = b) → ∀ x y, cmpL (a ++ x) (b ++ y) < 0
  | [], [], h, _, _, _ => by simp [cmpL] at h
  | [], y :: b, _, h, _, _ => by have := h (y :: b) [] (by simp); simp at this
  | _ :: _, [], h, _, _, _ => by simp [cmpL] at h
  | p :: a, q :: b, h, hp, x, y => by
    simp only [cmpL, List.cons_append] at h ⊢
    by_cases e : p = q
    · rw [if_pos e] at h ⊢
      refine cmpL_lt_app h (fun u v huv => ?_) x y
      have := hp u v (by simp [e, huv])
      simpa [e] using this
    · rw [if_neg e] at h ⊢; exact h
/-- At least as good. -/
def leT (g : Gr) (a b : Tr) : Prop := wtT g b < wtT g a ∨ wtT g a = wtT g b ∧ cmpL (rulesT a) (rulesT b) ≤ 0
theorem leT_trans {g : Gr} {a b c : Tr} (h : leT g a b) (h2 : leT g b c) : leT g a c := by
  unfold leT at *
  rcases h with h | ⟨h, k⟩
  · rcases h2 with h2 | ⟨h2, _⟩ <;> (left; omega)
  · rcases h2 with h2 | ⟨h2, k2⟩
    · left; omega
    · exact .inr ⟨by omega, cmpL_trans k k2⟩
theorem leT_refl (g : Gr) (a : Tr) : leT g a a := .inr ⟨rfl, by rw [cmpL_self]; omega⟩
theorem leT_less {g : Gr} {a b : Tr} (h : lessT g a b = true) : leT g a b := by
  unfold lessT at h
  split at h
  · exact .inl (by simpa using h)
  · rename_i h0
    exact .inr ⟨by omega, by have := of_decide_eq_true h; omega⟩
theorem leT_not {g : Gr} {a b : Tr} (h : lessT g a b = false) : leT g b a := by
  unfold lessT at h
  split at h
  · rename_i h0
    have := of_decide_eq_false h
    exact .inl (by omega)
  · rename_i h0
    have := of_decide_eq_false h
    exact .inr ⟨by omega, by rw [cmpL_swap]; omega⟩
/-- Of two trees that begin alike the rules are one. -/
def PF (L : List Tr) : Prop := ∀ x ∈ L, ∀ y ∈ L, ∀ u v, rulesT x ++ u = rulesT y ++ v → rulesT x = rulesT y
theorem goP_least {g : Gr} {T : Nat → List Pk} {TL : Nat → List Tr} {r : Int} : ∀ {l : List Int} {p : Nat} {w : Int} {ks : List Pk} {out : List Tr}, (∀ k : Nat, (k : Int) ∈ l → PF (TL k) ∧ ∀ p : Nat, ∀ t ∈ TL k, standB g.forbid r p t = true → (bestF (mayP g.forbid r p) (T k)).isTk = false ∧ treeP (bestF (mayP g.forbid r p) (T k)) ∈ TL k ∧ leT g (treeP (bestF (mayP g.forbid r p) (T k))) t) →
    out ∈ prodL (kidsL TL l) → maysB g.forbid r p out = true → ∃ w' es, goP g.forbid T r p l w ks = some (w', ks ++ es) ∧ (sumD g (rulessT out) < sumD g (rulessT (treesP l es)) ∨ sumD g (rulessT (treesP l es)) = sumD g (rulessT out) ∧ cmpL (rulessT (treesP l es)) (rulessT out) ≤ 0)
  | [], p, w, ks, out, _, ho, _ => by
    have : out = [] := by simpa [kidsL, prodL] using ho
    subst this
    exact ⟨w, [], by simp [goP], .inr ⟨by simp [treesP], by simp [treesP, rulessT, cmpL]⟩⟩
  | k :: l, p, w, ks, out, hk, ho, hm => by
    have hk2 := fun q (hq : ((q : Nat) : Int) ∈ l) => hk q (by simp [hq])
    have e : kidsL TL (k :: l) = (if 0 ≤ k then TL k.toNat else [leafT k]) :: kidsL TL l := rfl
    rw [e, prodL] at ho
    obtain ⟨t, ht, hm2⟩ := List.mem_flatMap.1 ho
    obtain ⟨out', ho', rfl⟩ := List.mem_map.1 hm2
    rw [maysB, Bool.and_eq_true] at hm
    obtain ⟨hm1, hm3⟩ := hm
    by_cases h0 : k < 0
    · rw [if_neg (by omega)] at ht
      have ht := List.mem_singleton.1 ht
      subst ht
      obtain ⟨w', es, e1, e2⟩ := goP_least (w := w) (ks := ks ++ [.tk]) hk2 ho' hm3
      refine ⟨w', .tk :: es, by simp only [goP]; rw [if_pos h0, e1]; simp, ?_⟩
      have h1 : rulesT (leafT k) = [] := by unfold leafT; rw [rulesT]; simp
      rw [treesP, rulessT, rulessT, h1, List.nil_append, List.nil_append]
      exact e2
    · rw [if_pos (by omega)] at ht
      obtain ⟨hpf, hb⟩ := hk k.toNat (by rw [Int.toNat_of_nonneg (by omega)]; simp)
      obtain ⟨b1, b2, b3⟩ := hb p t ht hm1
      generalize hB : bestF (mayP g.forbid r p) (T k.toNat) = B at *
      obtain ⟨w', es, e1, e2⟩ := goP_least (w := IntKind.i64.wrap (w + B.wt)) (ks := ks ++ [B]) hk2 ho' hm3
      refine ⟨w', B :: es, by simp only [goP]; rw [if_neg h0, hB, b1, if_neg (by simp), e1]; simp, ?_⟩
      have h1 : treesP (k :: l) (B :: es) = treeP B :: treesP l es := by
        cases B with
        | tk => cases b1
        | nd a w q => rw [treesP]
      rw [h1, rulessT, rulessT, sumD_app, sumD_app]
      have hpf2 := hpf _ b2 _ ht
      unfold leT wtT at b3
      rcases b3 with b3 | ⟨b3, b4⟩
      · rcases e2 with e2 | ⟨e2, _⟩ <;> (left; omega)
      · rcases e2 with e2 | ⟨e2, e3⟩
        · left; omega
        · right
          refine ⟨by omega, ?_⟩
          by_cases hc : cmpL (rulesT (treeP B)) (rulesT t) = 0
          · rw [cmpL_eq hc, cmpL_app]; exact e3
          · have := cmpL_lt_app (show cmpL (rulesT (treeP B)) (rulesT t) < 0 by omega) hpf2 (rulessT (treesP l es)) (rulessT out')
            omega
/-- At least as good, of picks. -/
def leP (p q : Pk) : Prop := q.wt < p.wt ∨ p.wt = q.wt ∧ cmpL (rulesP p) (rulesP q) ≤ 0
theorem leP_trans {a b c : Pk} (h : leP a b) (h2 : leP b c) : leP a c := by
  unfold leP at *
  rcases h with h | ⟨h, k⟩
  · rcases h2 with h2 | ⟨h2, _⟩ <;> (left; omega)
  · rcases h2 with h2 | ⟨h2, k2⟩
    · left; omega
    · exact .inr ⟨by omega, cmpL_trans k k2⟩
theorem leP_bet {p q : Pk} (h : betP p q = true) : leP p q := by
  unfold betP at h
  simp only [Bool.or_eq_true, Bool.and_eq_true, decide_eq_true_eq] at h
  rcases h with h | ⟨h, k⟩
  · exact .inl h
  · exact .inr ⟨h, by omega⟩
theorem leP_not {p q : Pk} (h : betP p q = false) : leP q p := by
  unfold betP at h
  simp only [Bool.or_eq_false_iff, Bool.and_eq_false_iff, decide_eq_false_iff_not] at h
  obtain ⟨h1, h2⟩ := h
  by_cases e : p.wt = q.wt
  · refine .inr ⟨e.symm, ?_⟩
    rcases h2 with h2 | h2
    · exact absurd e h2
    · rw [cmpL_swap]; omega
  · exact .inl (by omega)
theorem leP_refl (p : Pk) : leP p p := .inr ⟨rfl, by rw [cmpL_self]; omega⟩
theorem best_le (may : Int → Bool) : ∀ (l : List Pk) (out : Pk), (out.isTk = false → (l.foldl (bestS may) out).isTk = false ∧ leP (l.foldl (bestS may) out) out) ∧ ∀ p ∈ l, p.isTk = false → may p.rule = true → (l.foldl (bestS may) out).isTk = false ∧ leP (l.foldl (bestS may) out) p
  | [], out => ⟨fun h => ⟨h, leP_refl _⟩, by simp⟩
  | q :: l, out => by
    rw [List.foldl_cons]
    obtain ⟨h1, h2⟩ := best_le may l (bestS may out q)
    have k1 : out.isTk = false → (bestS may out q).isTk = false ∧ leP (bestS may out q) out := fun ho => by
      unfold bestS
      split
      · exact ⟨ho, leP_refl _⟩
      · rename_i hq
        simp only [Bool.or_eq_true, Bool.not_eq_true', not_or, Bool.not_eq_true, Bool.not_eq_false] at hq
        split
        · rename_i hb
          rw [ho, Bool.false_or] at hb
          exact ⟨hq.1, leP_bet hb⟩
        · exact ⟨ho, leP_refl _⟩
    have k2 : q.isTk = false → may q.rule = true → (bestS may out q).isTk = false ∧ leP (bestS may out q) q := fun hq hm => by
      unfold bestS
      rw [hq, hm, if_neg (by simp)]
      split
      · exact ⟨hq, leP_refl _⟩
      · rename_i hb
        simp only [Bool.or_eq_true, not_or, Bool.not_eq_true] at hb
        exact ⟨hb.1, leP_not hb.2⟩
    refine ⟨fun ho => ?_, fun p hp hpt hm => ?_⟩
    · obtain ⟨a, b⟩ := k1 ho
      obtain ⟨c, d⟩ := h1 a
      exact ⟨c, leP_trans d b⟩
    · rcases List.mem_cons.1 hp with rfl | hp
      · obtain ⟨a, b⟩ := k2 hpt hm
        obtain ⟨c, d⟩ := h1 a
        exact ⟨c, leP_trans d b⟩
      · exact h2 p hp hpt hm
theorem altL_kids {T : Nat → List Tr} {a : Al} {t : Tr} (h : t ∈ altL T a) : ∃ out, out ∈ prodL (kidsL T a.kids) ∧ t = .mk a.rule 0 out := by
  obtain ⟨out, h1, h2⟩ := List.mem_map.1 h
  exact ⟨out, h1, h2.symm⟩
/-- No tree that may be is better than the best pick's. -/
theorem best_least {g : Gr} {f : Fo} (hd : ∀ r, -1000000 ≤ dynF g r ∧ dynF g r ≤ 1000000) (hwh : wholeB g f = true) (h8 : ∀ i, ∀ a ∈ altsOf f i, a.kids.length ≤ 1000) (hpf : ∀ i, WF f i → PF (trL f i)) {i : Nat} (hw : WF f i) : big f i ≤ 1000000 → ∀ may : Int → Bool, ∀ t ∈ trL f i, mayB g.forbid t = true → may t.rule = true → (bestF may (pkT g f i)).isTk = false ∧ treeP (bestF may (pkT g f i)) ∈ trL f i ∧ leT g (treeP (bestF may (pkT g f i))) t := by
  have hdr : ∀ r, rng (dynF g r) := fun r => by have := hd r; unfold rng; omega
  have hr : ∀ i, ∀ a ∈ altsOf f i, a.rule ≠ -1 := fun i a ha => by
    obtain ⟨s, h⟩ := whole_of hwh ha
    have := (of_filt h).2.2
    omega
  induction hw with
  | @mk i hi hk hs ih =>
    intro hb may t ht hm hmay
    have hwf : WF f i := .mk hi hk hs
    have hsz := big_tr hwf (by show _ < (1099511627776 : Int); omega)
    have hpa := pick_all hdr hwh h8 hwf
    have ht0 := ht
    rw [trL_eq hwf] at ht0
    obtain ⟨a, ha, hta⟩ := List.mem_flatMap.1 ht0
    obtain ⟨out, ho, rfl⟩ := altL_kids hta
    have hra := hr i a ha
    have hms : maysB g.forbid a.rule 0 out = true := by
      rw [mayB_eq] at hm
      have e : decide ((Tr.mk a.rule 0 out).rule = -1) = false := decide_eq_false hra
      rw [e, Bool.false_or] at hm
      exact hm
    obtain ⟨w', es, e1, e2⟩ := goP_least (T := pkT g f) (TL := trL f) (r := a.rule) (w := dynF g a.rule) (ks := []) (fun k hkm => ⟨hpf k (hs k ⟨a, ha, hkm⟩), fun p t' ht' hst => by
      have hkr : t'.rule ≠ -1 := by
        rw [trL_eq (hs k ⟨a, ha, hkm⟩)] at ht'
        obtain ⟨a', ha', hta'⟩ := List.mem_flatMap.1 ht'
        rw [altL_rule t' hta']
        exact hr k a' ha'
      unfold standB at hst
      rw [Bool.and_eq_true] at hst
      refine ih k ⟨a, ha, hkm⟩ (big_kid hwf hb ⟨a, ha, hkm⟩) (mayP g.forbid a.rule p) t' ht' hst.2 ?_
      have := hst.1
      unfold mayP
      simpa [hkr] using this⟩) ho hms
    rw [List.nil_append] at e1
    have hp0 : altP g (pkT g f) a = .nd a w' es := by unfold altP; rw [e1]
    have hp1 : (Pk.nd a w' es) ∈ pkT g f i := by
      rw [pkT_eq hwf, ← hp0]
      exact List.mem_map.2 ⟨a, ha, rfl⟩
    have hp2 : leT g (treeP (.nd a w' es)) (.mk a.rule 0 out) := by
      rw [treeP]
      unfold leT wtT
      rw [rulesT, if_neg hra, rulesT, if_neg hra, sumD, sumD]
      rcases e2 with e2 | ⟨e2, e3⟩
      · left; omega
      · right
        refine ⟨by omega, ?_⟩
        rw [cmpL, if_pos rfl]; exact e3
    have hbe := (best_le may (pkT g f i) .tk).2 _ hp1 rfl hmay
    change (bestF may (pkT g f i)).isTk = false ∧ leP (bestF may (pkT g f i)) _ at hbe
    obtain ⟨c1, c2⟩ := hbe
    have q1 := hpa _ (best_in c1).1 c1
    have q2 := hpa _ hp1 rfl
    refine ⟨c1, q1.is.mem, leT_trans ?_ hp2⟩
    have s1 := hsz _ q1.is.mem
    have s2 := hsz _ q2.is.mem
    have w1 : wtT g (treeP (bestF may (pkT g f i))) = (bestF may (pkT g f i)).wt := by rw [q1.is.wt, wt_small hd (by omega)]
    have w2 : wtT g (treeP (.nd a w' es)) = (Pk.nd a w' es).wt := by rw [q2.is.wt, wt_small hd (by omega)]
    unfold leT
    rw [w1, w2, q1.rules, q2.rules]
    exact c2
end Go.Proofs.Ytbnhmioijeagiaa.Ab
/- Chapter 18's reference chart in plain terms: what its rows mean, that each entry has a rule, and which names lead to nothing. No condition. -/
set_option linter.unusedVariables false
set_option linter.unusedSimpArgs false
namespace Go.Proofs.Ytbnhmioijeagiaa.Ab

theorem nullI_fix (g : Gr) : ∀ (q : Nat) (o : List Bool), nullI g q o = fixI (nullR g) q o
  | 0, o => rfl
  | q + 1, o => by rw [nullI, fixI, nullI_fix g q]
theorem nullL_still {g : Gr} : ∀ (rs : List Ru) (x : List Bool × Bool), (rs.foldl (nullS g) x).2 = false → rs.foldl (nullS g) x = x ∧ ∀ r ∈ rs, nullS g x r = x
  | [], x, h => ⟨rfl, by simp⟩
  | r :: rs, x, h => by
    rw [List.foldl_cons] at h
    obtain ⟨h1, h2⟩ := nullL_still rs _ h
    rw [h1] at h
    have h3 : nullS g x r = x := by
      unfold nullS at h ⊢
      split
      · rename_i hc; rw [if_pos hc] at h; cases h
      · rfl
    rw [h3] at h1 h2
    refine ⟨by rw [List.foldl_cons, h3, h1], fun r' hr' => ?_⟩
    rcases List.mem_cons.1 hr' with rfl | h4
    · exact h3
    · exact h2 r' h4
theorem null_closed {g : Gr} {n : Nat} (hlt : ∀ r ∈ g.rules, r.left.toNat < n) : ∀ r ∈ g.rules, emptyF g (nullF g n) r.right = true → (nullF g n).getD r.left.toNat false = true := by
  obtain ⟨y, hy, hb, he⟩ := fixI_done (R := nullR g) (m := fun o => o.count false) (p := fun o => o.length = n) (fun x hx => by unfold nullR; rw [nullL_len]; exact hx) (fun x hx hb => by
    rcases (nullL_cnt g n g.rules (x, false) hlt hx).2 hb with h | h
    · cases h
    · exact h) (n + 1) (List.replicate n false) (by simp) (by simp)
  have hN : nullF g n = (nullR g y).1 := by unfold nullF; rw [nullI_fix]; exact he
  obtain ⟨h1, h2⟩ := nullL_still g.rules (y, false) hb
  have hy' : nullF g n = y := by rw [hN]; unfold nullR; rw [h1]
  rw [hy']
  intro r hr hemp
  have h3 := h2 r hr
  cases hc : y.getD r.left.toNat false with
  | true => rfl
  | false =>
    unfold nullS at h3
    simp only [hc, hemp] at h3
    simp at h3
/-- A row of symbols leads from a place to another. -/
def Chn (ks : List Int) (n : Nat) (F : List (List Bool)) : List Int → Nat → Nat → Prop
  | [], i, j => i = j
  | s :: l, i, j => ∃ m, m ≤ n ∧ link ks n F s i m = true ∧ Chn ks n F l m j
theorem link_le {ks : List Int} {n : Nat} {F : List (List Bool)} {s : Int} {i j : Nat} (h : link ks n F s i j = true) : i ≤ j := by
  unfold link at h
  split at h
  · simp only [Bool.and_eq_true, decide_eq_true_eq] at h; omega
  · simp only [Bool.and_eq_true, decide_eq_true_eq] at h; omega
theorem chn_le {ks : List Int} {n : Nat} {F : List (List Bool)} : ∀ {l : List Int} {i j : Nat}, Chn ks n F l i j → i ≤ j
  | [], i, j, h => Nat.le_of_eq h
  | s :: l, i, j, ⟨m, _, h1, h2⟩ => Nat.le_trans (link_le h1) (chn_le h2)
theorem stepB_get {ks : List Int} {n : Nat} {F : List (List Bool)} {fr : Nat} {now : List Bool} {s : Int} {j : Nat} : (stepB ks n F fr now s).getD j false = true ↔ j ≤ n ∧ ∃ i, fr ≤ i ∧ i ≤ n ∧ now.getD i false = true ∧ link ks n F s i j = true := by
  by_cases hj : j ≤ n
  · unfold stepB
    rw [tab_getD hj]
    unfold stepT
    rw [List.any_eq_true]
    constructor
    · rintro ⟨i, hi, h⟩
      have := List.mem_range.1 hi
      simp only [Bool.and_eq_true, decide_eq_true_eq] at h
      exact ⟨hj, i, h.1, by omega, h.2.1, h.2.2⟩
    · rintro ⟨_, i, h1, h2, h3, h4⟩
      exact ⟨i, List.mem_range.2 (by omega), by rw [h3, h4, decide_eq_true h1]; rfl⟩
  · rw [List.getD_eq_getElem?_getD, List.getElem?_eq_none (by unfold stepB; rw [tab_len]; omega)]
    simp [hj]
theorem rowL_chn {ks : List Int} {n : Nat} {F : List (List Bool)} {fr to : Nat} (hto : to ≤ n) : ∀ (l : List Int) (now : List Bool), (∀ i, now.getD i false = true → fr ≤ i) → ((l.foldl (stepB ks n F fr) now).getD to false = true ↔ ∃ i, fr ≤ i ∧ i ≤ n ∧ now.getD i false = true ∧ Chn ks n F l i to)
  | [], now, h => ⟨fun h1 => ⟨to, h _ h1, hto, h1, rfl⟩, fun ⟨i, _, _, h1, h2⟩ => by have h2 : i = to := h2; subst h2; exact h1⟩
  | s :: l, now, h => by
    rw [List.foldl_cons, rowL_chn hto l _ (fun i hi => by
      obtain ⟨_, i', h1, _, _, h4⟩ := stepB_get.1 hi
      exact Nat.le_trans h1 (link_le h4))]
    constructor
    · rintro ⟨i, h1, h2, h3, h4⟩
      obtain ⟨h5, i', g1, g2, g3, g4⟩ := stepB_get.1 h3
      exact ⟨i', g1, g2, g3, i, h2, g4, h4⟩
    · rintro ⟨i', g1, g2, g3, i, h2, g4, h4⟩
      exact ⟨i, Nat.le_trans g1 (link_le g4), h2, stepB_get.2 ⟨h2, i', g1, g2, g3, g4⟩, h4⟩
theorem row0_get {n fr i : Nat} (h : fr ≤ n) : (row0 n fr).getD i false = true ↔ i = fr := by
  by_cases hi : i ≤ n
  · unfold row0; rw [tab_getD hi]; simp
  · rw [List.getD_eq_getElem?_getD, List.getElem?_eq_none (by unfold row0; rw [tab_len]; omega)]
    simp; omega
theorem rowF_chn {ks : List Int} {n : Nat} {F : List (List Bool)} {l : List Int} {fr to : Nat} (hf : fr ≤ n) (hto : to ≤ n) : (rowF ks n F l fr).getD to false = true ↔ Chn ks n F l fr to := by
  unfold rowF
  rw [rowL_chn hto l _ (fun i hi => by rw [(row0_get hf).1 hi]; exact Nat.le_refl _)]
  constructor
  · rintro ⟨i, _, _, h1, h2⟩
    rw [(row0_get hf).1 h1] at h2; exact h2
  · exact fun h => ⟨fr, Nat.le_refl _, hf, (row0_get hf).2 rfl, h⟩
/-- All that one chart says the other one says too. -/
def MSub (F F' : List (List Bool)) : Prop := ∀ p j, getM F p j = true → getM F' p j = true
theorem link_mono {ks : List Int} {n : Nat} {F F' : List (List Bool)} (h : MSub F F') {s : Int} {i j : Nat} (hl : link ks n F s i j = true) : link ks n F' s i j = true := by
  unfold link at hl ⊢
  split
  · rename_i h0; rw [if_pos h0] at hl; exact hl
  · rename_i h0
    rw [if_neg h0] at hl
    simp only [Bool.and_eq_true] at hl ⊢
    exact ⟨hl.1, h _ _ hl.2⟩
theorem chn_mono {ks : List Int} {n : Nat} {F F' : List (List Bool)} (h : MSub F F') : ∀ {l : List Int} {i j : Nat}, Chn ks n F l i j → Chn ks n F' l i j
  | [], i, j, hc => hc
  | s :: l, i, j, ⟨m, h0, h1, h2⟩ => ⟨m, h0, link_mono h h1, chn_mono h h2⟩
theorem joinS_at {x : List (List Bool) × Bool} {s : Nat} {f : List Bool} {p j : Nat} (h : getM (joinS s f x).1 p j = true) : getM x.1 p j = true ∨ (p = s ∧ f.getD j false = true) := by
  unfold getM joinS at h
  simp only at h
  by_cases hp : p = s
  · subst hp
    by_cases hl : p < x.1.length
    · rw [List.getD_eq_getElem?_getD (l := x.1.set _ _), List.getElem?_set, if_pos rfl, if_pos hl, Option.getD_some] at h
      by_cases hj : j < (x.1.getD p []).length
      · rw [orL_getD hj] at h
        simp only [Bool.or_eq_true] at h
        rcases h with h | h
        · exact .inl h
        · exact .inr ⟨rfl, h⟩
      · rw [List.getD_eq_getElem?_getD, List.getElem?_eq_none (by rw [orL_len]; omega)] at h; cases h
    · rw [List.set_eq_of_length_le (by omega)] at h
      exact .inl h
  · rw [List.getD_eq_getElem?_getD (l := x.1.set _ _), List.getElem?_set, if_neg (fun e => hp e.symm), ← List.getD_eq_getElem?_getD] at h
    exact .inl h
theorem joinS_sub (x : List (List Bool) × Bool) (s : Nat) (f : List Bool) : MSub x.1 (joinS s f x).1 := by
  intro p j h
  unfold getM joinS
  simp only
  by_cases hp : p = s
  · subst hp
    by_cases hl : p < x.1.length
    · rw [List.getD_eq_getElem?_getD (l := x.1.set _ _), List.getElem?_set, if_pos rfl, if_pos hl, Option.getD_some]
      unfold getM at h
      by_cases hj : j < (x.1.getD p []).length
      · rw [orL_getD hj, h]; rfl
      · rw [List.getD_eq_getElem?_getD, List.getElem?_eq_none (by omega)] at h; cases h
    · rw [List.set_eq_of_length_le (by omega)]; exact h
  · rw [List.getD_eq_getElem?_getD (l := x.1.set _ _), List.getElem?_set, if_neg (fun e => hp e.symm), ← List.getD_eq_getElem?_getD]
    exact h
theorem idx_one {a b i j n : Nat} (hi : i ≤ n) (hj : j ≤ n) (h : a * (n + 1) + i = b * (n + 1) + j) : a = b ∧ i = j := by
  have h1 : (a * (n + 1) + i) / (n + 1) = a := by rw [Nat.mul_comm, Nat.mul_add_div (by omega), Nat.div_eq_of_lt (by omega)]; rfl
  have h2 : (b * (n + 1) + j) / (n + 1) = b := by rw [Nat.mul_comm, Nat.mul_add_div (by omega), Nat.div_eq_of_lt (by omega)]; rfl
  rw [h] at h1
  have : a = b := by omega
  subst this
  exact ⟨rfl, by omega⟩
/-- What holds of the chart at each moment: each entry has its rule, and one from a place to itself is of a name that derives nothing. -/
structure Sup (g : Gr) (ks : List Int) (N n : Nat) (F : List (List Bool)) : Prop where
  rule : ∀ a i j, i ≤ n → chAt n F a i j = true → i ≤ j ∧ j ≤ n ∧ ∃ r ∈ g.rules, r.left.toNat = a ∧ Chn ks n F r.right i j
  null : ∀ a i, i ≤ n → chAt n F a i i = true → (nullF g N).getD a false = true
theorem chn_null {g : Gr} {ks : List Int} {N n : Nat} {F : List (List Bool)} (h : Sup g ks N n F) : ∀ {l : List Int} {i : Nat}, i ≤ n → (∀ s ∈ l, isSym g s) → Chn ks n F l i i → emptyF g (nullF g N) l = true
  | [], i, _, _, _ => rfl
  | s :: l, i, hi, hs, ⟨m, h0, h1, h2⟩ => by
    have ha := link_le h1
    have hb := chn_le h2
    obtain rfl : m = i := by omega
    unfold emptyF
    rw [List.all_cons]
    have hr := chn_null h hi (fun t ht => hs t (by simp [ht])) h2
    unfold emptyF at hr
    rw [hr, Bool.and_true]
    unfold link at h1
    split at h1
    · simp only [Bool.and_eq_true, decide_eq_true_eq] at h1; omega
    · rename_i h3
      simp only [Bool.and_eq_true] at h1
      have := hs s (by simp)
      rw [h.null _ _ hi h1.2, Bool.and_true]
      unfold isSym isKind at this
      rcases this with h4 | h4
      · omega
      · exact decide_eq_true h4
theorem sup_step {g : Gr} {ks : List Int} {N n : Nat} (hsy : ∀ r ∈ g.rules, ∀ s ∈ r.right, isSym g s) (hlt : ∀ r ∈ g.rules, r.left.toNat < N) {r : Ru} (hr : r ∈ g.rules) {x : List (List Bool) × Bool} {i : Nat} (hi : i ≤ n) (h : Sup g ks N n x.1) : Sup g ks N n (chS ks n r x i).1 := by
  have hsub : MSub x.1 (chS ks n r x i).1 := joinS_sub _ _ _
  have key : ∀ a i' j, i' ≤ n → chAt n (chS ks n r x i).1 a i' j = true → chAt n x.1 a i' j = true ∨ (a = r.left.toNat ∧ i' = i ∧ i ≤ j ∧ j ≤ n ∧ Chn ks n x.1 r.right i j) := by
    intro a i' j hi' hc
    rcases joinS_at hc with h1 | ⟨h1, h2⟩
    · exact .inl h1
    · obtain ⟨h3, h4⟩ := idx_one hi' hi h1
      unfold fromT at h2
      by_cases hj : j ≤ n
      · rw [tab_getD hj] at h2
        simp only [Bool.and_eq_true, decide_eq_true_eq] at h2
        exact .inr ⟨h3, h4, h2.1, hj, (rowF_chn hi hj).1 h2.2⟩
      · rw [List.getD_eq_getElem?_getD, List.getElem?_eq_none (by rw [tab_len]; omega)] at h2; cases h2
  refine ⟨fun a i' j hi' hc => ?_, fun a i' hi' hc => ?_⟩
  · rcases key a i' j hi' hc with h1 | ⟨rfl, rfl, h3, h4, h5⟩
    · obtain ⟨g1, g2, r', g3, g4, g5⟩ := h.rule a i' j hi' h1
      exact ⟨g1, g2, r', g3, g4, chn_mono hsub g5⟩
    · exact ⟨h3, h4, r, hr, rfl, chn_mono hsub h5⟩
  · rcases key a i' i' hi' hc with h1 | ⟨rfl, rfl, h3, h4, h5⟩
    · exact h.null a i' hi' h1
    · exact null_closed hlt r hr (chn_null h hi (hsy r hr) h5)
theorem sup_fold {α : Type} {g : Gr} {ks : List Int} {N n : Nat} {f : List (List Bool) × Bool → α → List (List Bool) × Bool} : ∀ (l : List α) (x : List (List Bool) × Bool), (∀ a ∈ l, ∀ x, Sup g ks N n x.1 → Sup g ks N n (f x a).1) → Sup g ks N n x.1 → Sup g ks N n (l.foldl f x).1
  | [], _, _, h => h
  | a :: l, x, hf, h => sup_fold l _ (fun b hb => hf b (by simp [hb])) (hf a (by simp) x h)
theorem zeroF_get (N k p j : Nat) : getM (zeroF N k) p j = false := by
  unfold getM zeroF
  rw [List.getD_eq_getElem?_getD (l := List.replicate _ _), List.getElem?_replicate]
  split
  · rw [Option.getD_some]
    unfold zeroB
    rw [List.getD_eq_getElem?_getD, List.getElem?_replicate]
    split <;> rfl
  · rfl
theorem chF_sup {g : Gr} {ks : List Int} {N n : Nat} (hsy : ∀ r ∈ g.rules, ∀ s ∈ r.right, isSym g s) (hlt : ∀ r ∈ g.rules, r.left.toNat < N) : Sup g ks N n (chF g ks N n) := by
  unfold chF
  refine fixI_ok (p := Sup g ks N n) (fun F h => ?_) _ _ ⟨fun a i j _ h => ?_, fun a i _ h => ?_⟩
  · unfold chI
    refine sup_fold _ _ (fun r hr x hx => ?_) h
    unfold chR
    exact sup_fold _ _ (fun i hi x hx => sup_step hsy hlt hr (by have := List.mem_range.1 (List.mem_reverse.1 hi); omega) hx) hx
  · unfold chAt at h; rw [zeroF_get] at h; cases h
  · unfold chAt at h; rw [zeroF_get] at h; cases h
end Go.Proofs.Ytbnhmioijeagiaa.Ab
/- A grammar without a name that comes back to itself: a rank of names that falls along rules of one name alone. No condition. -/
set_option linter.unusedVariables false
set_option linter.unusedSimpArgs false
namespace Go.Proofs.Ytbnhmioijeagiaa.Ab

theorem fold_all {α β : Type} {I : β → Prop} {P : α → β → Prop} {f : β → α → β} : ∀ (L : List α) (x : β), (∀ x, ∀ a ∈ L, I x → I (f x a)) → (∀ x, ∀ a ∈ L, I x → P a (f x a)) → (∀ x, ∀ a ∈ L, ∀ b, I x → P b x → P b (f x a)) → I x → I (L.foldl f x) ∧ (∀ b, P b x → P b (L.foldl f x)) ∧ ∀ a ∈ L, P a (L.foldl f x)
  | [], x, _, _, _, h => ⟨h, fun _ hb => hb, by simp⟩
  | a :: L, x, h1, h2, h3, h => by
    obtain ⟨g1, g2, g3⟩ := fold_all L (f x a) (fun x b hb => h1 x b (by simp [hb])) (fun x b hb => h2 x b (by simp [hb])) (fun x b hb => h3 x b (by simp [hb])) (h1 x a (by simp) h)
    refine ⟨g1, fun b hb => g2 b (h3 x a (by simp) b h hb), fun b hb => ?_⟩
    rcases List.mem_cons.1 hb with rfl | hb
    · exact g2 b (h2 x b (by simp) h)
    · exact g3 b hb
theorem setM_get {n k : Nat} {F : List (List Bool)} (h : FOk n k F) {i j : Nat} (hi : i < n) (hj : j ≤ k) (v : Bool) (p q : Nat) : getM (setM F i j v) p q = if p = i ∧ q = j then v else getM F p q := by
  obtain ⟨x, hx, hl⟩ := fok_at h hi
  have hil : i < F.length := by rw [h.1]; exact hi
  rw [setM_of hx]
  unfold getM
  by_cases hp : p = i
  · subst hp
    rw [List.getD_eq_getElem?_getD (l := F.set _ _), List.getElem?_set, if_pos rfl, if_pos hil, Option.getD_some, List.getD_eq_getElem?_getD, List.getElem?_set]
    by_cases hq : q = j
    · subst hq; rw [if_pos rfl, if_pos (by omega), if_pos ⟨rfl, rfl⟩]; rfl
    · rw [if_neg (fun e => hq e.symm), if_neg (fun e => hq e.2), List.getD_eq_getElem?_getD (l := F), hx, Option.getD_some, List.getD_eq_getElem?_getD]
  · rw [List.getD_eq_getElem?_getD (l := F.set _ _), List.getElem?_set, if_neg (fun e => hp e.symm), if_neg (fun e => hp e.1), ← List.getD_eq_getElem?_getD]
theorem setM_true {n k : Nat} {F : List (List Bool)} (h : FOk n k F) {i j : Nat} (hi : i < n) (hj : j ≤ k) : MSub F (setM F i j true) ∧ getM (setM F i j true) i j = true := by
  refine ⟨fun p q hpq => ?_, by rw [setM_get h hi hj, if_pos ⟨rfl, rfl⟩]⟩
  rw [setM_get h hi hj]; split
  · rfl
  · exact hpq
/-- Between the chart before a step and what it may become. -/
structure Wi (n k m : Nat) (F0 F : List (List Bool)) : Prop where
  ok : FOk n k F
  lo : MSub F0 F
  hi : ∀ p q, getM F p q = true → getM F0 p q = true ∨ getM F0 p m = true ∧ getM F0 m q = true
theorem closS_wi {n k m i j : Nat} {F0 F : List (List Bool)} (hi : i < n) (hj : j ≤ k) (h : Wi n k m F0 F) : Wi n k m F0 (closS m i F j) ∧ MSub F (closS m i F j) ∧ (getM F0 i j = true ∨ getM F0 i m = true ∧ getM F0 m j = true → getM (closS m i F j) i j = true) := by
  have hm : MSub F (closS m i F j) := by
    intro p q hpq
    unfold closS
    rw [setM_get h.ok hi hj]
    split
    · rename_i e; rw [← e.1, ← e.2, hpq]; rfl
    · exact hpq
  refine ⟨⟨setM_ok h.ok hi _ _, fun p q hpq => hm p q (h.lo p q hpq), fun p q hpq => ?_⟩, hm, fun hc => ?_⟩
  · unfold closS at hpq
    rw [setM_get h.ok hi hj] at hpq
    split at hpq
    · rename_i e
      obtain ⟨rfl, rfl⟩ := e
      simp only [Bool.or_eq_true, Bool.and_eq_true] at hpq
      rcases hpq with h1 | ⟨h1, h2⟩
      · exact h.hi _ _ h1
      · have a1 : getM F0 p m = true := by rcases h.hi _ _ h1 with h3 | h3; exact h3; exact h3.1
        have a2 : getM F0 m q = true := by rcases h.hi _ _ h2 with h3 | h3; exact h3; exact h3.2
        exact .inr ⟨a1, a2⟩
    · exact h.hi _ _ hpq
  · unfold closS
    rw [setM_get h.ok hi hj, if_pos ⟨rfl, rfl⟩]
    rcases hc with h1 | ⟨h1, h2⟩
    · rw [h.lo _ _ h1]; rfl
    · rw [h.lo _ _ h1, h.lo _ _ h2]; simp
theorem closK_wi {n k m : Nat} {F : List (List Bool)} (hn : n = k + 1) (h : FOk n k F) : Wi n k m F (closK n F m) ∧ ∀ i j, i < n → j < n → (getM F i j = true ∨ getM F i m = true ∧ getM F m j = true → getM (closK n F m) i j = true) := by
  have hr : ∀ (G : List (List Bool)) (i : Nat), i < n → Wi n k m F G → Wi n k m F (closR n m G i) ∧ MSub G (closR n m G i) ∧ ∀ j ∈ List.range n, (getM F i j = true ∨ getM F i m = true ∧ getM F m j = true → getM (closR n m G i) i j = true) := by
    intro G i hi hG
    obtain ⟨g1, g2, g3⟩ := fold_all (I := fun X => Wi n k m F X ∧ MSub G X) (P := fun j X => (getM F i j = true ∨ getM F i m = true ∧ getM F m j = true → getM X i j = true)) (f := closS m i) (List.range n) G
      (fun x a ha hx => by
        have := List.mem_range.1 ha
        obtain ⟨b1, b2, b3⟩ := closS_wi (j := a) hi (by omega) hx.1
        exact ⟨b1, fun p q hpq => b2 p q (hx.2 p q hpq)⟩)
      (fun x a ha hx => by
        have := List.mem_range.1 ha
        exact (closS_wi (j := a) hi (by omega) hx.1).2.2)
      (fun x a ha b hx hb hc => by
        have := List.mem_range.1 ha
        exact (closS_wi (j := a) hi (by omega) hx.1).2.1 _ _ (hb hc)) ⟨hG, fun p q h => h⟩
    exact ⟨g1.1, g1.2, g3⟩
  obtain ⟨g1, g2, g3⟩ := fold_all (I := Wi n k m F) (P := fun i X => ∀ j, j < n → (getM F i j = true ∨ getM F i m = true ∧ getM F m j = true → getM X i j = true)) (f := closR n m) (List.range n) F
    (fun x a ha hx => (hr x a (List.mem_range.1 ha) hx).1)
    (fun x a ha hx j hj => (hr x a (List.mem_range.1 ha) hx).2.2 j (List.mem_range.2 hj))
    (fun x a ha b hx hb j hj hc => (hr x a (List.mem_range.1 ha) hx).2.1 _ _ (hb j hj hc)) ⟨h, fun p q h => h, fun p q h => .inl h⟩
  exact ⟨g1, fun i j hi hj => g3 i (List.mem_range.2 hi) j hj⟩
theorem warsh {n k : Nat} {F : List (List Bool)} (hn : n = k + 1) (h : FOk n k F) : ∀ m, m ≤ n → FOk n k ((List.range m).foldl (closK n) F) ∧ MSub F ((List.range m).foldl (closK n) F) ∧ ∀ q i j, q < m → i < n → j < n → getM ((List.range m).foldl (closK n) F) i q = true → getM ((List.range m).foldl (closK n) F) q j = true → getM ((List.range m).foldl (closK n) F) i j = true
  | 0, _ => ⟨h, fun p q h => h, fun q i j h => absurd h (by omega)⟩
  | m + 1, hm => by
    obtain ⟨h1, h2, h3⟩ := warsh hn h m (by omega)
    rw [List.range_succ, List.foldl_append, List.foldl_cons, List.foldl_nil]
    generalize (List.range m).foldl (closK n) F = G at *
    obtain ⟨g1, g2⟩ := closK_wi (m := m) hn h1
    refine ⟨g1.ok, fun p q hpq => g1.lo _ _ (h2 _ _ hpq), fun q i j hq hi hj a b => g2 i j hi hj ?_⟩
    by_cases e : q = m
    · subst e
      have a' : getM G i q = true := by rcases g1.hi _ _ a with h4 | h4; exact h4; exact h4.1
      have b' : getM G q j = true := by rcases g1.hi _ _ b with h4 | h4; exact h4; exact h4.2
      exact .inr ⟨a', b'⟩
    · have hqm : q < m := by omega
      rcases g1.hi _ _ a with a1 | ⟨a1, a2⟩ <;> rcases g1.hi _ _ b with b1 | ⟨b1, b2⟩
      · exact .inl (h3 q i j hqm hi hj a1 b1)
      · exact .inr ⟨h3 q i m hqm hi (by omega) a1 b1, b2⟩
      · exact .inr ⟨a1, h3 q m j hqm (by omega) hj a2 b1⟩
      · exact .inr ⟨a1, b2⟩
theorem edge_in {g : Gr} {n k : Nat} (hn : n = k + 1) (hlt : ∀ r ∈ g.rules, r.left.toNat < n) (hsy : ∀ r ∈ g.rules, ∀ s ∈ r.right, isSym g s) (hN : g.names = n) : FOk n k (edgeF g n) ∧ ∀ r ∈ g.rules, ∀ q, q < r.right.length → aloneT (nullF g n) r.right q r.right.length = true → getM (edgeF g n) r.left.toNat (r.right.getD q 0).toNat = true := by
  have hal : ∀ r ∈ g.rules, ∀ q, q < r.right.length → aloneT (nullF g n) r.right q r.right.length = true → (r.right.getD q 0).toNat ≤ k := by
    intro r hr q hq ha
    have h1 := hsy r hr (r.right.getD q 0) (by rw [List.getD_eq_getElem?_getD, List.getElem?_eq_getElem hq]; exact List.getElem_mem hq)
    unfold aloneT at ha
    simp only [Bool.and_eq_true, decide_eq_true_eq] at ha
    have := ha.1
    unfold isSym isKind isName at h1
    omega
  have hE : edgeF g n = g.rules.foldl (edgeR (nullF g n)) (zeroF n k) := by unfold edgeF; rw [hn]; rfl
  rw [hE]
  have one : ∀ r ∈ g.rules, ∀ F, FOk n k F → FOk n k (edgeR (nullF g n) F r) ∧ MSub F (edgeR (nullF g n) F r) ∧ ∀ q ∈ List.range r.right.length, aloneT (nullF g n) r.right q r.right.length = true → getM (edgeR (nullF g n) F r) r.left.toNat (r.right.getD q 0).toNat = true := by
    intro r hr F hF
    have st : ∀ X q, q ∈ List.range r.right.length → FOk n k X → FOk n k (edgeS (nullF g n) r X q) ∧ MSub X (edgeS (nullF g n) r X q) ∧ (aloneT (nullF g n) r.right q r.right.length = true → getM (edgeS (nullF g n) r X q) r.left.toNat (r.right.getD q 0).toNat = true) := by
      intro X q hq hX
      unfold edgeS
      split
      · rename_i ha
        have := hal r hr q (List.mem_range.1 hq) ha
        exact ⟨setM_ok hX (hlt r hr) _ _, (setM_true hX (hlt r hr) this).1, fun _ => (setM_true hX (hlt r hr) this).2⟩
      · rename_i ha
        exact ⟨hX, fun p q h => h, fun h => absurd h ha⟩
    obtain ⟨g1, g2, g3⟩ := fold_all (I := fun X => FOk n k X ∧ MSub F X) (P := fun q X => aloneT (nullF g n) r.right q r.right.length = true → getM X r.left.toNat (r.right.getD q 0).toNat = true) (f := edgeS (nullF g n) r) (List.range r.right.length) F
      (fun x a ha hx => ⟨(st x a ha hx.1).1, fun p q hpq => (st x a ha hx.1).2.1 _ _ (hx.2 _ _ hpq)⟩)
      (fun x a ha hx => (st x a ha hx.1).2.2)
      (fun x a ha b hx hb hc => (st x a ha hx.1).2.1 _ _ (hb hc)) ⟨hF, fun p q h => h⟩
    exact ⟨g1.1, g1.2, g3⟩
  obtain ⟨g1, g2, g3⟩ := fold_all (I := FOk n k) (P := fun (r : Ru) (X : List (List Bool)) => ∀ q ∈ List.range r.right.length, aloneT (nullF g n) r.right q r.right.length = true → getM X r.left.toNat (r.right.getD q 0).toNat = true) (f := edgeR (nullF g n)) g.rules (zeroF n k)
    (fun x r hr hx => (one r hr x hx).1)
    (fun x r hr hx => (one r hr x hx).2.2)
    (fun x r hr b hx hb q hq hc => (one r hr x hx).2.1 _ _ (hb q hq hc)) (zeroF_ok n k)
  exact ⟨g1, fun r hr q hq ha => g3 r hr q (List.mem_range.2 hq) ha⟩
theorem cntP_lt {p q : Nat → Bool} : ∀ {L : List Nat}, (∀ x ∈ L, p x = true → q x = true) → ∀ {y : Nat}, y ∈ L → q y = true → p y = false → L.countP p < L.countP q
  | [], _, y, hy, _, _ => by cases hy
  | x :: L, h, y, hy, h1, h2 => by
    have hle : L.countP p ≤ L.countP q := List.countP_mono_left fun z hz hp => h z (by simp [hz]) hp
    rw [List.countP_cons, List.countP_cons]
    rcases List.mem_cons.1 hy with rfl | hy
    · rw [h1, h2]; simp; omega
    · have := cntP_lt (fun z hz => h z (by simp [hz])) hy h1 h2
      have hx := h x (by simp)
      cases hp : p x
      · simp; omega
      · rw [hx hp]; simp; omega
/-- How many names a name leads to, each alone. -/
def rank (g : Gr) (n a : Nat) : Nat := (List.range n).countP fun b => getM (closF n (edgeF g n)) a b
theorem rank_le (g : Gr) (n a : Nat) : rank g n a ≤ n := by
  unfold rank
  refine Nat.le_trans (List.countP_le_length) ?_
  simp
theorem rank_fall {g : Gr} {n k : Nat} (hn : n = k + 1) (hlt : ∀ r ∈ g.rules, r.left.toNat < n) (hsy : ∀ r ∈ g.rules, ∀ s ∈ r.right, isSym g s) (hN : g.names = n) (hc : (cycF g n).any id = false) : ∀ r ∈ g.rules, ∀ q, q < r.right.length → aloneT (nullF g n) r.right q r.right.length = true → rank g n (r.right.getD q 0).toNat < rank g n r.left.toNat := by
  intro r hr q hq ha
  obtain ⟨h1, h2⟩ := edge_in hn hlt hsy hN
  obtain ⟨g1, g2, g3⟩ := warsh hn h1 n (Nat.le_refl _)
  have hE := g2 _ _ (h2 r hr q hq ha)
  have hb : (r.right.getD q 0).toNat < n := by
    have h1 := hsy r hr (r.right.getD q 0) (by rw [List.getD_eq_getElem?_getD, List.getElem?_eq_getElem hq]; exact List.getElem_mem hq)
    unfold aloneT at ha
    simp only [Bool.and_eq_true, decide_eq_true_eq] at ha
    have := ha.1
    unfold isSym isKind isName at h1
    omega
  have hd : ∀ i, i < n → getM (closF n (edgeF g n)) i i = false := by
    intro i hi
    rw [List.any_eq_false] at hc
    have := hc (getM (closF n (edgeF g n)) i i) (List.mem_map.2 ⟨i, List.mem_range.2 hi, rfl⟩)
    simpa using this
  unfold rank
  refine cntP_lt (fun x hx hp => ?_) (List.mem_range.2 hb) hE (hd _ hb)
  exact g3 _ _ _ hb (hlt r hr) (List.mem_range.1 hx) hE hp
end Go.Proofs.Ytbnhmioijeagiaa.Ab
/- Chapter 19's reference in plain terms: what the ways of a key are, and what the queue of Build ends with. No condition. -/
set_option linter.unusedVariables false
set_option linter.unusedSimpArgs false
namespace Go.Proofs.Ytbnhmioijeagiaa.Ab

theorem nodup_on {α β : Type} {f : α → β} {l : List α} (hf : ∀ a ∈ l, ∀ b ∈ l, f a = f b → a = b) (h : l.Nodup) : (l.map f).Nodup := by
  unfold List.Nodup at *
  rw [List.pairwise_map]
  exact h.imp_of_mem fun ha hb hne e => hne (hf _ ha _ hb e)
/-- A way: kids one behind the other, each of its symbol. -/
def WayOk (ks : List Int) (n : Nat) (F : List (List Bool)) : List Int → Nat → Nat → List Ky → Prop
  | [], fr, to, w => w = [] ∧ fr = to
  | s :: l, fr, to, w => ∃ (j : Nat) (w' : List Ky), w = kyOf s fr j :: w' ∧ j ≤ n ∧ link ks n F s fr j = true ∧ WayOk ks n F l j to w'
theorem waysL_way {ks : List Int} {n : Nat} {F : List (List Bool)} {R : Nat → Nat → List (List Ky)} {s : Int} {l : List Int} {fr to m : Nat} (hto : to ≤ n) (hR : ∀ j m', j ≤ to → ∀ w ∈ R j m', WayOk ks n F l j to w) : ∀ (L : List Nat) (out : List (List Ky)), (∀ j ∈ L, j ≤ to) → (∀ w ∈ out, WayOk ks n F (s :: l) fr to w) → ∀ w ∈ L.foldl (waysS ks n F R s l fr to m) out, WayOk ks n F (s :: l) fr to w
  | [], _, _, h => h
  | j :: L, out, hL, h => waysL_way hto hR L _ (fun q hq => hL q (by simp [hq])) (by
    have hjt := hL j (by simp)
    intro w hw
    unfold waysS at hw
    split at hw
    · rename_i hc
      rcases List.mem_append.1 hw with h1 | h1
      · exact h w h1
      · obtain ⟨v, hv, rfl⟩ := List.mem_map.1 h1
        exact ⟨j, v, rfl, by omega, hc.2.2.1, hR j _ hjt v hv⟩
    · exact h w hw)
theorem waysF_way {ks : List Int} {n : Nat} {F : List (List Bool)} : ∀ (l : List Int) (fr to m : Nat), to ≤ n → ∀ w ∈ waysF ks n F l fr to m, WayOk ks n F l fr to w
  | [], fr, to, m, _, w, hw => by
    unfold waysF at hw
    split at hw
    · rename_i h; exact ⟨by simpa using hw, h⟩
    · simp at hw
  | s :: l, fr, to, m, hto, w, hw => by
    unfold waysF at hw
    exact waysL_way hto (fun j m' hj => waysF_way l j to m' hto) _ _ (fun j hj => by have := List.mem_range.1 hj; omega) (by simp) w hw
theorem waysF_some {ks : List Int} {n : Nat} {F : List (List Bool)} : ∀ (l : List Int) (fr to m : Nat), fr ≤ n → to ≤ n → Chn ks n F l fr to → waysF ks n F l fr to m ≠ []
  | [], fr, to, m, _, _, h => by
    unfold waysF
    have h : fr = to := h
    rw [if_pos h]; simp
  | s :: l, fr, to, m, hfr, hto, ⟨j, hj, h1, h2⟩ => by
    unfold waysF
    have hjt := chn_le h2
    have hfj := link_le h1
    obtain ⟨_, _, g3⟩ := fold_all (I := fun _ : List (List Ky) => True) (P := fun q X => q = j → X ≠ []) (f := waysS ks n F (fun j m' => waysF ks n F l j to m') s l fr to m) (List.range (to + 1)) []
      (fun _ _ _ _ => trivial)
      (fun x a ha _ haj => by
        subst haj
        unfold waysS
        by_cases hx : x.length ≤ m
        · rw [if_pos ⟨hfj, hx, h1, (rowF_chn hj hto).2 h2⟩]
          have := waysF_some l a to (m - x.length) hj hto h2
          intro e
          have e2 := (List.append_eq_nil_iff.1 e).2
          exact this (by simpa using e2)
        · rw [if_neg (fun hc => hx hc.2.1)]
          intro e; subst e; simp at hx)
      (fun x a ha b _ hb hbj => by
        have := hb hbj
        unfold waysS
        split
        · intro e; exact this (List.append_eq_nil_iff.1 e).1
        · exact this) trivial
    exact g3 j (List.mem_range.2 (by omega)) rfl
theorem waysL_nodup {ks : List Int} {n : Nat} {F : List (List Bool)} {R : Nat → Nat → List (List Ky)} {s : Int} {l : List Int} {fr to m : Nat} (hR : ∀ j m', (R j m').Nodup) : ∀ (L : List Nat) (out : List (List Ky)), L.Nodup → out.Nodup → (∀ w ∈ out, ∀ y ∈ w.head?, ∀ j ∈ L, y.2.2 ≠ (j : Int)) → (L.foldl (waysS ks n F R s l fr to m) out).Nodup
  | [], _, _, h, _ => h
  | j :: L, out, hL, h, hh => by
    obtain ⟨hj, hL⟩ := List.nodup_cons.1 hL
    rw [List.foldl_cons]
    refine waysL_nodup hR L _ hL ?_ ?_
    · unfold waysS
      split
      · refine List.nodup_append.2 ⟨h, nodup_on (fun a _ b _ e => by simpa using e) (hR _ _), fun a ha b hb e => ?_⟩
        subst e
        obtain ⟨v, hv, rfl⟩ := List.mem_map.1 hb
        exact hh _ ha (kyOf s fr j) rfl j (by simp) rfl
      · exact h
    · intro w hw y hy q hq
      unfold waysS at hw
      split at hw
      · rcases List.mem_append.1 hw with h1 | h1
        · exact hh w h1 y hy q (by simp [hq])
        · obtain ⟨v, hv, rfl⟩ := List.mem_map.1 h1
          have : kyOf s fr j = y := by simpa using hy
          subst this
          intro e
          have e : (j : Int) = q := e
          exact hj (by have : j = q := by omega
                       subst this; exact hq)
      · exact hh w hw y hy q (by simp [hq])
theorem waysF_nodup {ks : List Int} {n : Nat} {F : List (List Bool)} : ∀ (l : List Int) (fr to m : Nat), (waysF ks n F l fr to m).Nodup
  | [], fr, to, m => by unfold waysF; split <;> simp
  | s :: l, fr, to, m => by
    unfold waysF
    exact waysL_nodup (fun j m' => waysF_nodup l j to m') _ _ List.nodup_range (by simp) (by simp)

/-- A token's key, and a node's. -/
def KyT (ks : List Int) (n : Nat) (y : Ky) : Prop := ∃ i : Nat, i < n ∧ y = (-1, (i : Int), ((i + 1 : Nat) : Int))
def KyN (N n : Nat) (F : List (List Bool)) (y : Ky) : Prop := ∃ s a b : Nat, s < N ∧ a ≤ b ∧ b ≤ n ∧ y = ((s : Int), (a : Int), (b : Int)) ∧ chAt n F s a b = true
theorem kyOf_is {g : Gr} {ks : List Int} {N n : Nat} {F : List (List Bool)} {s : Int} {a b : Nat} (hN : g.names = N) (hs : isSym g s) (hb : b ≤ n) (h : link ks n F s a b = true) : (s < 0 ∧ b = a + 1 ∧ a < n ∧ ks.getD a 0 = -1 - s ∧ kyOf s a b = (-1, (a : Int), ((a + 1 : Nat) : Int))) ∨ (∃ t : Nat, s = t ∧ t < N ∧ a ≤ b ∧ chAt n F t a b = true ∧ kyOf s a b = ((t : Int), (a : Int), (b : Int))) := by
  unfold link at h
  unfold kyOf
  split at h
  · rename_i h0
    simp only [Bool.and_eq_true, decide_eq_true_eq] at h
    rw [if_pos h0]
    exact .inl ⟨h0, h.1, h.2.1, h.2.2, by rw [h.1]⟩
  · rename_i h0
    simp only [Bool.and_eq_true, decide_eq_true_eq] at h
    rw [if_neg h0]
    obtain ⟨t, rfl⟩ := Int.eq_ofNat_of_zero_le (show 0 ≤ s by omega)
    unfold isSym isKind isName at hs
    exact .inr ⟨t, rfl, by omega, h.1, h.2, rfl⟩
theorem way_ky {g : Gr} {ks : List Int} {N n : Nat} {F : List (List Bool)} (hN : g.names = N) : ∀ {l : List Int} {fr to : Nat} {w : List Ky}, (∀ s ∈ l, isSym g s) → WayOk ks n F l fr to w → ∀ y ∈ w, KyT ks n y ∨ KyN N n F y
  | [], fr, to, w, _, ⟨h, _⟩, y, hy => by subst h; cases hy
  | s :: l, fr, to, w, hs, ⟨j, w', hw, h1, h2, h3⟩, y, hy => by
    subst hw
    rcases List.mem_cons.1 hy with rfl | hy
    · rcases kyOf_is hN (hs s (by simp)) h1 h2 with ⟨_, _, h4, _, h5⟩ | ⟨t, _, h4, h5, h6, h7⟩
      · exact .inl ⟨fr, h4, h5⟩
      · exact .inr ⟨t, fr, j, h4, h5, h1, h7, h6⟩
    · exact way_ky hN (fun t ht => hs t (by simp [ht])) h3 y hy

/-! ### the ways of one key -/
/-- What is known of a key's ways: each of a rule of its name, no two alike. -/
structure MineOk (g : Gr) (ks : List Int) (n : Nat) (F : List (List Bool)) (s : Int) (a b : Nat) (m : List Wy) : Prop where
  way : ∀ w ∈ m, ∃ j : Nat, w.1 = j ∧ j < g.rules.length ∧ (ruleAt g j).left = s ∧ WayOk ks n F (ruleAt g j).right a b w.2
  one : m.Nodup
theorem mineL_all {g : Gr} {ks : List Int} {n lim : Nat} {F : List (List Bool)} {k : Ky} : ∀ (L : List Nat) (x : List Wy × Nat), L.Nodup → (∀ j ∈ L, ∀ w ∈ x.1, w.1 ≠ (j : Int)) → x.1.Nodup → x.2 ≤ (L.foldl (mineS g ks n F lim k) x).2 ∧ (L.foldl (mineS g ks n F lim k) x).1.Nodup ∧ (∀ w ∈ (L.foldl (mineS g ks n F lim k) x).1, w ∈ x.1 ∨ ∃ j ∈ L, w.1 = (j : Int) ∧ (ruleAt g j).left = k.1 ∧ w.2 ∈ waysF ks n F (ruleAt g j).right k.2.1.toNat k.2.2.toNat lim) ∧ ((L.foldl (mineS g ks n F lim k) x).2 ≤ lim → (∀ w ∈ x.1, w ∈ (L.foldl (mineS g ks n F lim k) x).1) ∧ ∀ j ∈ L, (ruleAt g j).left = k.1 → ∀ v ∈ waysF ks n F (ruleAt g j).right k.2.1.toNat k.2.2.toNat lim, ((j : Int), v) ∈ (L.foldl (mineS g ks n F lim k) x).1)
  | [], x, _, _, h => ⟨Nat.le_refl _, h, fun w hw => .inl hw, fun _ => ⟨fun w hw => hw, by simp⟩⟩
  | j :: L, x, hL, hne, hx => by
    obtain ⟨hj, hL⟩ := List.nodup_cons.1 hL
    rw [List.foldl_cons]
    by_cases hc : x.2 ≤ lim ∧ (ruleAt g j).left = k.1
    · have he : mineS g ks n F lim k x j = (x.1 ++ (waysF ks n F (ruleAt g j).right k.2.1.toNat k.2.2.toNat lim).map fun w => ((j : Int), w), x.2 + (waysF ks n F (ruleAt g j).right k.2.1.toNat k.2.2.toNat lim).length) := by unfold mineS; rw [if_pos hc]
      obtain ⟨g1, g2, g3, g4⟩ := mineL_all (g := g) (ks := ks) (n := n) (lim := lim) (F := F) (k := k) L (mineS g ks n F lim k x j) hL (by
          rw [he]
          intro q hq w hw
          rcases List.mem_append.1 hw with h1 | h1
          · exact hne q (by simp [hq]) w h1
          · obtain ⟨v, _, rfl⟩ := List.mem_map.1 h1
            intro e
            have e : (j : Int) = q := e
            exact hj (by have : j = q := by omega
                         subst this; exact hq)) (by
          rw [he]
          refine List.nodup_append.2 ⟨hx, nodup_on (fun a _ b _ e => by simpa using e) (waysF_nodup _ _ _ _), fun a ha b hb e => ?_⟩
          subst e
          obtain ⟨v, _, rfl⟩ := List.mem_map.1 hb
          exact hne j (by simp) _ ha rfl)
      refine ⟨Nat.le_trans (by rw [he]; simp) g1, g2, fun w hw => ?_, fun hl => ?_⟩
      · rcases g3 w hw with h1 | ⟨q, hq, h1⟩
        · rw [he] at h1
          rcases List.mem_append.1 h1 with h2 | h2
          · exact .inl h2
          · obtain ⟨v, hv, rfl⟩ := List.mem_map.1 h2
            exact .inr ⟨j, by simp, rfl, hc.2, hv⟩
        · exact .inr ⟨q, by simp [hq], h1⟩
      · obtain ⟨g5, g6⟩ := g4 hl
        have g5 : ∀ w ∈ x.1 ++ (waysF ks n F (ruleAt g j).right k.2.1.toNat k.2.2.toNat lim).map (fun w => ((j : Int), w)), w ∈ (L.foldl (mineS g ks n F lim k) (mineS g ks n F lim k x j)).1 := fun w hw => g5 w (by rw [he]; exact hw)
        refine ⟨fun w hw => g5 w (List.mem_append.2 (.inl hw)), fun q hq hql v hv => ?_⟩
        rcases List.mem_cons.1 hq with rfl | hq
        · exact g5 _ (List.mem_append.2 (.inr (List.mem_map.2 ⟨v, hv, rfl⟩)))
        · exact g6 q hq hql v hv
    · have he : mineS g ks n F lim k x j = x := by unfold mineS; rw [if_neg hc]
      rw [he]
      obtain ⟨g1, g2, g3, g4⟩ := mineL_all (g := g) (ks := ks) (n := n) (lim := lim) (F := F) (k := k) L x hL (fun q hq => hne q (by simp [hq])) hx
      refine ⟨g1, g2, fun w hw => ?_, fun hl => ?_⟩
      · rcases g3 w hw with h1 | ⟨q, hq, h1⟩
        · exact .inl h1
        · exact .inr ⟨q, by simp [hq], h1⟩
      · obtain ⟨g5, g6⟩ := g4 hl
        refine ⟨g5, fun q hq hql v hv => ?_⟩
        rcases List.mem_cons.1 hq with rfl | hq
        · exact absurd ⟨by omega, hql⟩ hc
        · exact g6 q hq hql v hv
theorem mineF_is {g : Gr} {ks : List Int} {n lim : Nat} {F : List (List Bool)} {s : Int} {a b : Nat} (hb : b ≤ n) (c : Nat) : MineOk g ks n F s a b (mineF g ks n F lim (s, (a : Int), (b : Int)) c).1 := by
  obtain ⟨g1, g2, g3, g4⟩ := mineL_all (g := g) (ks := ks) (n := n) (lim := lim) (F := F) (k := (s, (a : Int), (b : Int))) (List.range g.rules.length) ([], c) List.nodup_range (by simp) (by simp)
  refine ⟨fun w hw => ?_, g2⟩
  rcases g3 w hw with h | ⟨j, hj, h1, h2, h3⟩
  · cases h
  · simp only [Int.toNat_natCast] at h3
    exact ⟨j, h1, List.mem_range.1 hj, h2, waysF_way _ _ _ _ hb _ h3⟩
theorem mineF_some {g : Gr} {ks : List Int} {N n lim : Nat} {F : List (List Bool)} (hS : Sup g ks N n F) (hl0 : ∀ r ∈ g.rules, 0 ≤ r.left) {s a b : Nat} (hab : a ≤ b) (hb : b ≤ n) (hc : chAt n F s a b = true) {c : Nat} (hm : (mineF g ks n F lim ((s : Int), (a : Int), (b : Int)) c).2 ≤ lim) : (mineF g ks n F lim ((s : Int), (a : Int), (b : Int)) c).1 ≠ [] := by
  obtain ⟨g1, g2, g3, g4⟩ := mineL_all (g := g) (ks := ks) (n := n) (lim := lim) (F := F) (k := ((s : Int), (a : Int), (b : Int))) (List.range g.rules.length) ([], c) List.nodup_range (by simp) (by simp)
  obtain ⟨h1, h2, r, hr, h3, h4⟩ := hS.rule s a b (by omega) hc
  obtain ⟨j, hj, hjr⟩ := List.getElem_of_mem hr
  have hra : ruleAt g (j : Int) = r := by unfold ruleAt; rw [Int.toNat_natCast, List.getD_eq_getElem?_getD, List.getElem?_eq_getElem hj, hjr]; rfl
  have h5 := waysF_some (ks := ks) (n := n) (F := F) r.right a b lim (by omega) hb h4
  obtain ⟨v, hv⟩ := List.exists_mem_of_ne_nil _ h5
  have := hl0 r hr
  have h6 := (g4 hm).2 j (List.mem_range.2 hj) (by rw [hra]; show r.left = (s : Int); omega) v (by rw [hra]; simpa using hv)
  intro e
  unfold mineF at e
  rw [e] at h6
  cases h6

/-! ### the queue -/
theorem newS_pre (x : List Ky × Nat) (y : Ky) : x.1 <+: (newS x y).1 ∧ x.2 ≤ (newS x y).2 ∧ (0 ≤ y.1 → y ∈ (newS x y).1) ∧ ∀ k ∈ (newS x y).1, k ∈ x.1 ∨ k = y ∧ 0 ≤ y.1 := by
  unfold newS
  split
  · rename_i h
    refine ⟨⟨[y], rfl⟩, by simp, fun _ => by simp, fun k hk => ?_⟩
    rcases List.mem_append.1 hk with h1 | h1
    · exact .inl h1
    · exact .inr ⟨List.mem_singleton.1 h1, h.1⟩
  · rename_i h
    refine ⟨List.prefix_rfl, Nat.le_refl _, fun h0 => ?_, fun k hk => .inl hk⟩
    apply Classical.byContradiction
    intro hn
    exact h ⟨h0, findF_neg.2 hn⟩
theorem newL_pre : ∀ (l : List Ky) (x : List Ky × Nat), x.1 <+: (l.foldl newS x).1 ∧ x.2 ≤ (l.foldl newS x).2 ∧ (∀ y ∈ l, 0 ≤ y.1 → y ∈ (l.foldl newS x).1) ∧ ∀ k ∈ (l.foldl newS x).1, k ∈ x.1 ∨ k ∈ l ∧ 0 ≤ k.1
  | [], x => ⟨List.prefix_rfl, Nat.le_refl _, by simp, fun k hk => .inl hk⟩
  | y :: l, x => by
    obtain ⟨a1, a2, a3, a4⟩ := newS_pre x y
    obtain ⟨b1, b2, b3, b4⟩ := newL_pre l (newS x y)
    rw [List.foldl_cons]
    refine ⟨a1.trans b1, Nat.le_trans a2 b2, fun z hz h0 => ?_, fun k hk => ?_⟩
    · rcases List.mem_cons.1 hz with rfl | hz
      · exact b1.subset (a3 h0)
      · exact b3 z hz h0
    · rcases b4 k hk with h | h
      · rcases a4 k h with h | ⟨rfl, h⟩
        · exact .inl h
        · exact .inr ⟨by simp, h⟩
      · exact .inr ⟨by simp [h.1], h.2⟩
theorem newM_pre (lim : Nat) : ∀ (m : List Wy) (x : List Ky × Nat), x.1 <+: (m.foldl (newW lim) x).1 ∧ x.2 ≤ (m.foldl (newW lim) x).2 ∧ ((m.foldl (newW lim) x).2 ≤ lim → ∀ w ∈ m, ∀ y ∈ w.2, 0 ≤ y.1 → y ∈ (m.foldl (newW lim) x).1) ∧ ∀ k ∈ (m.foldl (newW lim) x).1, k ∈ x.1 ∨ 0 ≤ k.1 ∧ ∃ w ∈ m, k ∈ w.2
  | [], x => ⟨List.prefix_rfl, Nat.le_refl _, fun _ => by simp, fun k hk => .inl hk⟩
  | w :: m, x => by
    obtain ⟨b1, b2, b3, b4⟩ := newM_pre lim m (newW lim x w)
    rw [List.foldl_cons]
    by_cases hx : x.2 ≤ lim
    · have he : newW lim x w = w.2.foldl newS x := by unfold newW; rw [if_pos hx]
      obtain ⟨a1, a2, a3, a4⟩ := newL_pre w.2 x
      rw [← he] at a1 a2 a3 a4
      refine ⟨a1.trans b1, Nat.le_trans a2 b2, fun hl v hv y hy h0 => ?_, fun k hk => ?_⟩
      · rcases List.mem_cons.1 hv with rfl | hv
        · exact b1.subset (a3 y hy h0)
        · exact b3 hl v hv y hy h0
      · rcases b4 k hk with h | ⟨h0, v, hv, h⟩
        · rcases a4 k h with h | h
          · exact .inl h
          · exact .inr ⟨h.2, w, by simp, h.1⟩
        · exact .inr ⟨h0, v, by simp [hv], h⟩
    · have he : newW lim x w = x := by unfold newW; rw [if_neg hx]
      rw [he] at b1 b2 b3 b4 ⊢
      refine ⟨b1, b2, fun hl => absurd (Nat.le_trans b2 hl) hx, fun k hk => ?_⟩
      rcases b4 k hk with h | ⟨h0, v, hv, h⟩
      · exact .inl h
      · exact .inr ⟨h0, v, by simp [hv], h⟩
/-- What the queue holds of its first i keys. -/
def QOk (g : Gr) (ks : List Int) (n : Nat) (F : List (List Bool)) (lim i : Nat) (keys : List Ky) (all : List (List Wy)) : Prop := all.length = i ∧ ∀ j, j < i → ∃ k c, keys[j]? = some k ∧ (mineF g ks n F lim k c).2 ≤ lim ∧ all[j]? = some (mineF g ks n F lim k c).1 ∧ ∀ w ∈ (mineF g ks n F lim k c).1, ∀ y ∈ w.2, 0 ≤ y.1 → y ∈ keys
theorem bldQ_spec {g : Gr} {ks : List Int} {N n lim : Nat} {F : List (List Bool)} (hN : g.names = N) (hsy : ∀ r ∈ g.rules, ∀ s ∈ r.right, isSym g s) : ∀ (q i : Nat) (keys : List Ky) (all : List (List Wy)) (c : Nat) {K : List Ky} {A : List (List Wy)}, bldQ g ks n F lim q i keys all c = some (K, A) → QOk g ks n F lim i keys all → i ≤ keys.length → (∀ k ∈ keys, KyN N n F k) → keys <+: K ∧ QOk g ks n F lim K.length K A ∧ ∀ k ∈ K, KyN N n F k
  | 0, i, keys, all, c, K, A, h, _, _, _ => by simp [bldQ] at h
  | q + 1, i, keys, all, c, K, A, h, hq, hi, hk => by
    rw [bldQ] at h
    cases hki : keys[i]? with
    | none =>
      rw [hki] at h
      simp only [Option.some.injEq, Prod.mk.injEq] at h
      obtain ⟨rfl, rfl⟩ := h
      have : keys.length ≤ i := List.getElem?_eq_none_iff.1 hki
      have : i = keys.length := by omega
      subst this
      exact ⟨List.prefix_rfl, hq, hk⟩
    | some k =>
      rw [hki] at h
      simp only at h
      have hil : i < keys.length := (List.getElem?_eq_some_iff.1 hki).1
      have hkk := hk k (List.mem_of_getElem? hki)
      have hky : ∀ w ∈ (mineF g ks n F lim k c).1, ∀ y ∈ w.2, 0 ≤ y.1 → KyN N n F y := by
        obtain ⟨s, a, b, h1, h2, h3, rfl, h4⟩ := hkk
        intro w hw y hy h0
        obtain ⟨j, g1, g2, g3, g4⟩ := (mineF_is (lim := lim) h3 c).way w hw
        have hrm := List.mem_of_getElem? (ruleAt_at (g := g) (i := (j : Int)) (by omega) (by omega))
        rcases way_ky hN (hsy _ hrm) g4 y hy with ⟨t, _, rfl⟩ | h
        · simp at h0
        · exact h
      obtain ⟨p1, p2, p3, p4⟩ := newM_pre lim (mineF g ks n F lim k c).1 (keys, (mineF g ks n F lim k c).2)
      split at h
      · cases h
      · rename_i hle
        generalize ((mineF g ks n F lim k c).1.foldl (newW lim) (keys, (mineF g ks n F lim k c).2)) = z at *
        have hle : z.2 ≤ lim := by omega
        have hle2 : (mineF g ks n F lim k c).2 ≤ lim := Nat.le_trans p2 hle
        have hpl := p1.length_le
        simp only at hpl
        obtain ⟨r1, r2, r3⟩ := bldQ_spec hN hsy q (i + 1) z.1 (all ++ [(mineF g ks n F lim k c).1]) z.2 h ⟨by simp [hq.1], fun j hj => by
          by_cases hji : j < i
          · obtain ⟨k', c', e1, e2, e3, e4⟩ := hq.2 j hji
            refine ⟨k', c', ?_, e2, ?_, fun w hw y hy h0 => p1.subset (e4 w hw y hy h0)⟩
            · obtain ⟨t, ht⟩ := p1
              rw [← ht, List.getElem?_append_left (List.getElem?_eq_some_iff.1 e1).1]; exact e1
            · rw [List.getElem?_append_left (by rw [hq.1]; exact hji)]; exact e3
          · have : j = i := by omega
            subst this
            refine ⟨k, c, ?_, hle2, ?_, p3 hle⟩
            · obtain ⟨t, ht⟩ := p1
              rw [← ht, List.getElem?_append_left hil]; exact hki
            · rw [List.getElem?_append_right (by rw [hq.1]; exact Nat.le_refl _), hq.1, Nat.sub_self]; rfl⟩ (by omega) (fun k' hk' => by
          rcases p4 k' hk' with h1 | ⟨h0, w, hw, h1⟩
          · exact hk k' h1
          · exact hky w hw k' h1 h0)
        exact ⟨p1.trans r1, r2, r3⟩
end Go.Proofs.Ytbnhmioijeagiaa.Ab
/- The forest that chapter 19's reference builds, in plain terms: its nodes, that it has no ring, its trees. No condition. -/
set_option linter.unusedVariables false
set_option linter.unusedSimpArgs false
namespace Go.Proofs.Ytbnhmioijeagiaa.Ab

theorem buildF_some {g : Gr} {ks : List Int} {N lim : Nat} {f : Fo} (fo : FormOk g N) (hN : g.names = N) (h : (buildF g ks lim).1 = some f) : ∃ K A, f = bldF K A ∧ QOk g ks ks.length (chF g ks N ks.length) lim K.length K A ∧ (∀ k ∈ K, KyN N ks.length (chF g ks N ks.length) k) ∧ K[0]? = some (g.start, (0 : Int), (ks.length : Int)) := by
  have hNN : g.names.toNat = N := by omega
  unfold buildF at h
  rw [hNN] at h
  generalize hF : chF g ks N ks.length = F at *
  split at h
  · cases h
  · rename_i hh
    have hh : hasF N ks.length F g.start 0 ks.length = true := by simpa using hh
    have hst := fo.st
    unfold isName at hst
    cases hq : bldQ g ks ks.length F lim (lim + 2) 0 [(g.start, 0, (ks.length : Int))] [] 1 with
    | none => rw [hq] at h; cases h
    | some x =>
      rw [hq] at h
      obtain ⟨K, A⟩ := x
      obtain ⟨h1, h2, h3⟩ := bldQ_spec hN fo.sym _ _ _ _ _ hq ⟨rfl, fun j hj => absurd hj (by omega)⟩ (by simp) (by
        intro k hk
        rw [List.mem_singleton.1 hk]
        unfold hasF at hh
        simp only [Bool.and_eq_true] at hh
        exact ⟨g.start.toNat, 0, ks.length, by omega, by omega, Nat.le_refl _, by rw [Int.toNat_of_nonneg hst.1]; rfl, by simpa using hh.2⟩)
      refine ⟨K, A, (Option.some.inj h).symm, h2, h3, ?_⟩
      obtain ⟨t, ht⟩ := h1
      rw [← ht]; rfl

/-- A node of the forest, by its key. -/
structure NodeIs (g : Gr) (ks : List Int) (N n : Nat) (F : List (List Bool)) (o : List Ky) (f : Fo) (i s a b : Nat) (m : List Wy) : Prop where
  key : o[i]? = some ((s : Int), (a : Int), (b : Int))
  sN : s < N
  ab : a ≤ b
  bn : b ≤ n
  mine : MineOk g ks n F s a b m
  some : m ≠ []
  kids : ∀ w ∈ m, ∀ y ∈ w.2, 0 ≤ y.1 → y ∈ o
  alts : altsOf f i = sortK lowF (m.map (altN o))
theorem node_is {g : Gr} {ks : List Int} {N n lim : Nat} {F : List (List Bool)} {K : List Ky} {A : List (List Wy)} (hS : Sup g ks N n F) (hl0 : ∀ r ∈ g.rules, 0 ≤ r.left) (hq : QOk g ks n F lim K.length K A) (hK : ∀ k ∈ K, KyN N n F k) {i : Nat} {k : Ky} (hi : (sortK aheadF K)[i]? = some k) : ∃ (s a b : Nat) (m : List Wy), k = ((s : Int), (a : Int), (b : Int)) ∧ NodeIs g ks N n F (sortK aheadF K) (bldF K A) i s a b m := by
  have hkK : k ∈ K := sortK_mem.1 (List.mem_of_getElem? hi)
  obtain ⟨s, a, b, h1, h2, h3, rfl, h4⟩ := hK k hkK
  obtain ⟨g1, g2, g3⟩ := findF_at hkK
  obtain ⟨k', c, e1, e2, e3, e4⟩ := hq.2 (findF ((s : Int), (a : Int), (b : Int)) K 0).toNat (by omega)
  rw [g1] at e1
  cases e1
  refine ⟨s, a, b, _, rfl, hi, h1, h2, h3, mineF_is h3 c, mineF_some hS hl0 h2 h3 h4 e2, fun w hw y hy h0 => sortK_mem.2 (e4 w hw y hy h0), ?_⟩
  unfold altsOf bldF
  simp only
  rw [List.getElem?_map, hi]
  simp only [Option.map_some, Option.getD_some]
  unfold nodeN
  simp only
  rw [List.getD_eq_getElem?_getD (l := A), e3]
  rfl
theorem way_split {ks : List Int} {n : Nat} {F : List (List Bool)} : ∀ {l : List Int} {fr to : Nat} {w : List Ky}, WayOk ks n F l fr to w → ∀ y ∈ w, ∃ l1 s l2 a b, l = l1 ++ s :: l2 ∧ b ≤ n ∧ Chn ks n F l1 fr a ∧ link ks n F s a b = true ∧ Chn ks n F l2 b to ∧ y = kyOf s a b
  | [], fr, to, w, ⟨h, _⟩, y, hy => by subst h; cases hy
  | s :: l, fr, to, w, ⟨j, w', hw, h1, h2, h3⟩, y, hy => by
    subst hw
    rcases List.mem_cons.1 hy with rfl | hy
    · refine ⟨[], s, l, fr, j, rfl, h1, rfl, h2, ?_, rfl⟩
      have : ∀ {l : List Int} {fr to : Nat} {w : List Ky}, WayOk ks n F l fr to w → Chn ks n F l fr to := by
        intro l
        induction l with
        | nil => intro fr to w h; exact h.2
        | cons s l ih => intro fr to w ⟨j, w', _, h1, h2, h3⟩; exact ⟨j, h1, h2, ih h3⟩
      exact this h3
    · obtain ⟨l1, t, l2, a, b, e, q1, q2, q3, q4, q5⟩ := way_split h3 y hy
      exact ⟨s :: l1, t, l2, a, b, by rw [e]; rfl, q1, ⟨j, h1, h2, q2⟩, q3, q4, q5⟩
theorem alone_of {null : List Bool} {g : Gr} {l1 l2 : List Int} {s : Int} (h1 : emptyF g null l1 = true) (h2 : emptyF g null l2 = true) (hs : 0 ≤ s) : aloneT null (l1 ++ s :: l2) l1.length (l1 ++ s :: l2).length = true := by
  unfold aloneT
  rw [Bool.and_eq_true]
  constructor
  · rw [List.getD_eq_getElem?_getD, List.getElem?_append_right (Nat.le_refl _), Nat.sub_self]
    exact decide_eq_true hs
  · rw [List.all_eq_true]
    intro q hq
    have hq := List.mem_range.1 hq
    rw [List.length_append, List.length_cons] at hq
    have hx : ∀ (l : List Int) (p : Nat), emptyF g null l = true → p < l.length → (decide (0 ≤ l.getD p 0) && null.getD (l.getD p 0).toNat false) = true := by
      intro l p h hp
      unfold emptyF at h
      rw [List.all_eq_true] at h
      have := h (l.getD p 0) (by rw [List.getD_eq_getElem?_getD, List.getElem?_eq_getElem hp]; exact List.getElem_mem hp)
      simp only [Bool.and_eq_true, decide_eq_true_eq] at this ⊢
      have h2 := this.1
      unfold isName at h2
      exact ⟨h2.1, this.2⟩
    rcases Nat.lt_trichotomy q l1.length with h | h | h
    · have e : (l1 ++ s :: l2).getD q 0 = l1.getD q 0 := by rw [List.getD_eq_getElem?_getD, List.getElem?_append_left h, ← List.getD_eq_getElem?_getD]
      rw [e, hx l1 q h1 h, Bool.or_true]
    · subst h; simp
    · have e : (l1 ++ s :: l2).getD q 0 = l2.getD (q - l1.length - 1) 0 := by
        rw [List.getD_eq_getElem?_getD, List.getElem?_append_right (by omega), show q - l1.length = (q - l1.length - 1) + 1 by omega, List.getElem?_cons_succ, ← List.getD_eq_getElem?_getD]
        rfl
      rw [e, hx l2 _ h2 (by omega), Bool.or_true]
/-- What a kid's key is to the node's: within it, and shorter or of a lower rank. -/
theorem kid_less {g : Gr} {ks : List Int} {N n k : Nat} {F : List (List Bool)} (fo : FormOk g N) (hN : g.names = N) (hk : N = k + 1) (hc : (cycF g N).any id = false) (hS : Sup g ks N n F) {r : Ru} (hr : r ∈ g.rules) {s a b : Nat} (hs : r.left = s) (hb : b ≤ n) {w : List Ky} (hw : WayOk ks n F r.right a b w) : ∀ y ∈ w, 0 ≤ y.1 → ∃ t a' b' : Nat, y = ((t : Int), (a' : Int), (b' : Int)) ∧ a ≤ a' ∧ a' ≤ b' ∧ b' ≤ b ∧ (b' - a' < b - a ∨ b' - a' = b - a ∧ rank g N t < rank g N s) := by
  intro y hy h0
  obtain ⟨l1, t, l2, a', b', e, q1, q2, q3, q4, rfl⟩ := way_split hw y hy
  have ht : isSym g t := fo.sym r hr t (by rw [e]; simp)
  have o1 := chn_le q2
  have o2 := chn_le q4
  have o3 := link_le q3
  rcases kyOf_is hN ht q1 q3 with ⟨_, _, _, _, h⟩ | ⟨t', rfl, h1, h2, h3, h⟩
  · rw [h] at h0; simp at h0
  · rw [h]
    refine ⟨t', a', b', rfl, o1, o3, o2, ?_⟩
    by_cases hlt : b' - a' < b - a
    · exact .inl hlt
    · obtain rfl : a = a' := by omega
      obtain rfl : b = b' := by omega
      have e1 := chn_null hS (by omega) (fun t ht => fo.sym r hr t (by rw [e]; simp [ht])) q2
      have e2 := chn_null hS hb (fun t ht => fo.sym r hr t (by rw [e]; simp [ht])) q4
      have hal := alone_of e1 e2 h0
      have hlt2 : ∀ r ∈ g.rules, r.left.toNat < N := fun r hr => by have := fo.left r hr; unfold isName at this; omega
      have := rank_fall hk hlt2 fo.sym hN hc r hr l1.length (by rw [e]; simp) (by rw [e]; exact alone_of e1 e2 (by omega))
      rw [e, List.getD_eq_getElem?_getD, List.getElem?_append_right (Nat.le_refl _), Nat.sub_self] at this
      simp only [List.getElem?_cons_zero, Option.getD_some, Int.toNat_natCast, hs] at this
      exact .inr ⟨rfl, this⟩

/-- All that is known of a forest that Build makes. -/
structure Blt (g : Gr) (ks : List Int) (N : Nat) (F : List (List Bool)) (o : List Ky) (f : Fo) : Prop where
  fo : FormOk g N
  hN : g.names = N
  cyc : (cycF g N).any id = false
  sup : Sup g ks N ks.length F
  len : f.nodes.length = o.length
  node : ∀ i k, o[i]? = some k → ∃ (s a b : Nat) (m : List Wy), k = ((s : Int), (a : Int), (b : Int)) ∧ NodeIs g ks N ks.length F o f i s a b m
  root : ∃ r : Nat, f.root = r ∧ o[r]? = some (g.start, (0 : Int), (ks.length : Int))
theorem blt_kid {g : Gr} {ks : List Int} {N : Nat} {F : List (List Bool)} {o : List Ky} {f : Fo} (B : Blt g ks N F o f) {i s a b : Nat} {m : List Wy} (hn : NodeIs g ks N ks.length F o f i s a b m) {k : Int} (hk : Kid f i k) : k < o.length ∧ (0 ≤ k → ∃ t a' b' : Nat, o[k.toNat]? = some ((t : Int), (a' : Int), (b' : Int)) ∧ (b' - a') * (N + 1) + rank g N t < (b - a) * (N + 1) + rank g N s) := by
  obtain ⟨al, hal, hm⟩ := hk
  rw [hn.alts] at hal
  obtain ⟨w, hw, rfl⟩ := List.mem_map.1 (sortK_mem.1 hal)
  obtain ⟨y, hy, rfl⟩ := List.mem_map.1 hm
  have ho : 0 < o.length := by have := (List.getElem?_eq_some_iff.1 hn.key).1; omega
  obtain ⟨j, h1, h2, h3, h4⟩ := hn.mine.way w hw
  have hrm := List.mem_of_getElem? (ruleAt_at (g := g) (i := (j : Int)) (by omega) (by omega))
  unfold kidN
  split
  · rename_i hy0
    rcases way_ky B.hN (B.fo.sym _ hrm) h4 y hy with ⟨t, _, rfl⟩ | ⟨t, a', b', _, _, _, rfl, _⟩
    · simp only; omega
    · simp only at hy0; omega
  · rename_i hy0
    have hy0 : 0 ≤ y.1 := by omega
    have hyo := hn.kids w hw y hy hy0
    obtain ⟨e1, e2, e3⟩ := findF_at hyo
    refine ⟨e3, fun _ => ?_⟩
    obtain ⟨N', hN'⟩ : ∃ N', N = N' + 1 := ⟨N - 1, by have := B.fo.n0; omega⟩
    obtain ⟨t, a', b', rfl, g1, g2, g3, g4⟩ := kid_less B.fo B.hN hN' B.cyc B.sup hrm h3 hn.bn h4 y hy hy0
    refine ⟨t, a', b', e1, ?_⟩
    rcases g4 with g4 | ⟨g4, g5⟩
    · have := rank_le g N t
      have h5 : (b' - a' + 1) * (N + 1) ≤ (b - a) * (N + 1) := Nat.mul_le_mul_right _ g4
      rw [Nat.add_mul, Nat.one_mul] at h5
      omega
    · rw [g4]; omega
theorem blt_wf {g : Gr} {ks : List Int} {N : Nat} {F : List (List Bool)} {o : List Ky} {f : Fo} (B : Blt g ks N F o f) : ∀ (q i s a b : Nat), o[i]? = some ((s : Int), (a : Int), (b : Int)) → (b - a) * (N + 1) + rank g N s < q → WF f i
  | 0, i, s, a, b, _, h => absurd h (by omega)
  | q + 1, i, s, a, b, hi, h => by
    obtain ⟨s', a', b', m, e, hn⟩ := B.node i _ hi
    simp only [Prod.mk.injEq] at e
    obtain ⟨rfl, rfl, rfl⟩ : s = s' ∧ a = a' ∧ b = b' := by omega
    refine .mk (by rw [B.len]; exact (List.getElem?_eq_some_iff.1 hi).1) (fun k hk => by rw [B.len]; exact (blt_kid B hn hk).1) (fun k hk => ?_)
    obtain ⟨t, a', b', h1, h2⟩ := (blt_kid B hn hk).2 (by omega)
    exact blt_wf B q k t a' b' (by simpa using h1) (by omega)
theorem blt_all {g : Gr} {ks : List Int} {N : Nat} {F : List (List Bool)} {o : List Ky} {f : Fo} (B : Blt g ks N F o f) {i : Nat} (hi : i < f.nodes.length) : WF f i := by
  rw [B.len] at hi
  obtain ⟨s, a, b, m, e, hn⟩ := B.node i _ (List.getElem?_eq_getElem hi)
  exact blt_wf B _ i s a b hn.key (Nat.lt_succ_self _)
theorem blt_form {g : Gr} {ks : List Int} {N : Nat} {F : List (List Bool)} {o : List Ky} {f : Fo} (B : Blt g ks N F o f) : FForm f := by
  obtain ⟨r, h1, h2⟩ := B.root
  have := (List.getElem?_eq_some_iff.1 h2).1
  exact ⟨⟨by omega, by rw [h1, B.len]; omega⟩, fun i hi => blt_all B hi⟩
end Go.Proofs.Ytbnhmioijeagiaa.Ab
/- The trees of the forest that chapter 19's reference builds: each is one of its symbol, there is one, and no two are alike. No condition. -/
set_option linter.unusedVariables false
set_option linter.unusedSimpArgs false
namespace Go.Proofs.Ytbnhmioijeagiaa.Ab

/-- The tokens from a place to another. -/
def span (a b : Nat) : List Int := (List.range' a (b - a)).map fun (i : Nat) => (i : Int)
theorem span_nil (a : Nat) : span a a = [] := by simp [span]
theorem span_one (a : Nat) : span a (a + 1) = [(a : Int)] := by simp [span, show a + 1 - a = 1 by omega]
theorem span_app {a j b : Nat} (h1 : a ≤ j) (h2 : j ≤ b) : span a j ++ span j b = span a b := by
  unfold span
  rw [← List.map_append]
  congr 1
  have := List.range'_append_1 (s := a) (m := j - a) (n := b - j)
  rw [show a + (j - a) = j by omega, show j - a + (b - j) = b - a by omega] at this
  exact this
/-- A tree is one of a symbol. -/
inductive Dv (g : Gr) (ks : List Int) : Int → Tr → Prop
  | leaf {s : Int} {i : Nat} (h0 : s < 0) (hi : i < ks.length) (hk : ks.getD i 0 = -1 - s) : Dv g ks s (.mk (-1) (i : Int) [])
  | node {j : Nat} {kids : List Tr} (hj : j < g.rules.length) (h0 : 0 ≤ (ruleAt g (j : Int)).left) (hl : kids.length = (ruleAt g (j : Int)).right.length) (hk : ∀ (q : Nat) (t : Tr), kids[q]? = some t → Dv g ks ((ruleAt g (j : Int)).right.getD q 0) t) : Dv g ks (ruleAt g (j : Int)).left (.mk (j : Int) 0 kids)
theorem head_is {g : Gr} {ks : List Int} {N : Nat} {F : List (List Bool)} {o : List Ky} {f : Fo} {s : Int} {fr j : Nat} (hN : g.names = N) (hs : isSym g s) (hj : j ≤ ks.length) (hl : link ks ks.length F s fr j = true) (hko : 0 ≤ (kyOf s fr j).1 → kyOf s fr j ∈ o)
    (ih : ∀ t a b : Nat, kyOf s fr j = ((t : Int), (a : Int), (b : Int)) → ∀ x ∈ trL f (findF (kyOf s fr j) o 0).toNat, Dv g ks t x ∧ yieldF x = span a b) {x : Tr} (hx : x ∈ (if 0 ≤ kidN o (kyOf s fr j) then trL f (kidN o (kyOf s fr j)).toNat else [leafT (kidN o (kyOf s fr j))])) : Dv g ks s x ∧ yieldF x = span fr j ∧ fr ≤ j := by
  rcases kyOf_is hN hs hj hl with ⟨h1, rfl, h3, h4, h⟩ | ⟨t, rfl, h1, h2, h3, h⟩
  · rw [h] at hx
    have hk : kidN o (-1, (fr : Int), ((fr + 1 : Nat) : Int)) = -1 - (fr : Int) := by unfold kidN; rw [if_pos (by simp)]
    rw [hk, if_neg (by omega)] at hx
    have hx := List.mem_singleton.1 hx
    have : leafT (-1 - (fr : Int)) = .mk (-1) (fr : Int) [] := by unfold leafT; congr 1; omega
    rw [this] at hx
    subst hx
    exact ⟨.leaf h1 h3 h4, by rw [yieldF_eq, span_one]; rfl, by omega⟩
  · have ho := hko (by rw [h]; simp only; omega)
    have hf := findF_at ho
    have hk : kidN o (kyOf ((t : Nat) : Int) fr j) = findF (kyOf ((t : Nat) : Int) fr j) o 0 := by unfold kidN; rw [if_neg (by rw [h]; simp only; omega)]
    rw [hk, if_pos hf.2.1] at hx
    have := ih t fr j h x hx
    exact ⟨this.1, this.2, h2⟩
theorem row_trees {g : Gr} {ks : List Int} {N : Nat} {F : List (List Bool)} {o : List Ky} {f : Fo} (hN : g.names = N) : ∀ {l : List Int} {fr to : Nat} {w : List Ky}, (∀ s ∈ l, isSym g s) → WayOk ks ks.length F l fr to w → (∀ y ∈ w, 0 ≤ y.1 → y ∈ o) → (∀ y ∈ w, ∀ t a b : Nat, y = ((t : Int), (a : Int), (b : Int)) → ∀ x ∈ trL f (findF y o 0).toNat, Dv g ks t x ∧ yieldF x = span a b) →
    ∀ out ∈ prodL (kidsL (trL f) (w.map (kidN o))), fr ≤ to ∧ out.length = l.length ∧ yieldsF out = span fr to ∧ ∀ (q : Nat) (t : Tr), out[q]? = some t → Dv g ks (l.getD q 0) t
  | [], fr, to, w, _, ⟨h1, h2⟩, _, _, out, hout => by
    subst h1; subst h2
    have : out = [] := by simpa [kidsL, prodL] using hout
    subst this
    exact ⟨Nat.le_refl _, rfl, by rw [span_nil]; rfl, by simp⟩
  | s :: l, fr, to, w, hs, ⟨j, w', hw, h1, h2, h3⟩, hko, ih, out, hout => by
    subst hw
    have e : kidsL (trL f) ((kyOf s fr j :: w').map (kidN o)) = (if 0 ≤ kidN o (kyOf s fr j) then trL f (kidN o (kyOf s fr j)).toNat else [leafT (kidN o (kyOf s fr j))]) :: kidsL (trL f) (w'.map (kidN o)) := rfl
    rw [e, prodL] at hout
    obtain ⟨t, ht, hm⟩ := List.mem_flatMap.1 hout
    obtain ⟨out', ho', rfl⟩ := List.mem_map.1 hm
    obtain ⟨g1, g2, g5⟩ := head_is hN (hs s (by simp)) h1 h2 (hko _ (by simp)) (fun t a b e => ih _ (by simp) t a b e) ht
    obtain ⟨g6, g3, g4, g7⟩ := row_trees hN (fun s hs' => hs s (by simp [hs'])) h3 (fun y hy => hko y (by simp [hy])) (fun y hy => ih y (by simp [hy])) out' ho'
    refine ⟨by omega, by simp [g3], by rw [yieldsF, g2, g4, span_app g5 g6], fun q x hx => ?_⟩
    cases q with
    | zero => simp at hx; subst hx; simpa using g1
    | succ q => simp at hx; simpa using g7 q x hx
theorem kid_in {w : Wy} {o : List Ky} {y : Ky} (hy : y ∈ w.2) (h0 : 0 ≤ y.1) (ho : y ∈ o) : (((findF y o 0).toNat : Nat) : Int) ∈ (altN o w).kids := by
  refine List.mem_map.2 ⟨y, hy, ?_⟩
  have := (findF_at ho).2.1
  unfold kidN
  rw [if_neg (by omega)]
  omega
theorem tree_is {g : Gr} {ks : List Int} {N : Nat} {F : List (List Bool)} {o : List Ky} {f : Fo} (B : Blt g ks N F o f) {i : Nat} (hw : WF f i) : ∀ s a b : Nat, o[i]? = some ((s : Int), (a : Int), (b : Int)) → ∀ x ∈ trL f i, Dv g ks s x ∧ yieldF x = span a b := by
  induction hw with
  | @mk i hi hkn hkw ih =>
  intro s a b hio x hx
  have hwf : WF f i := .mk hi hkn hkw
  obtain ⟨s', a', b', m, e, hn⟩ := B.node i _ hio
  simp only [Prod.mk.injEq] at e
  obtain ⟨rfl, rfl, rfl⟩ : s = s' ∧ a = a' ∧ b = b' := by omega
  rw [trL_eq hwf] at hx
  obtain ⟨al, hal, hx⟩ := List.mem_flatMap.1 hx
  have hal2 := hal
  rw [hn.alts] at hal
  obtain ⟨w, hw, rfl⟩ := List.mem_map.1 (sortK_mem.1 hal)
  obtain ⟨out, hout, rfl⟩ := List.mem_map.1 hx
  obtain ⟨j, h1, h2, h3, h4⟩ := hn.mine.way w hw
  have hrm := List.mem_of_getElem? (ruleAt_at (g := g) (i := (j : Int)) (by omega) (by omega))
  obtain ⟨g0, g1, g2, g3⟩ := row_trees (f := f) B.hN (B.fo.sym _ hrm) h4 (hn.kids w hw) (fun y hy t a' b' e x hx => by
    have h0 : 0 ≤ y.1 := by rw [e]; simp only; omega
    have hyo := hn.kids w hw y hy h0
    exact ih _ ⟨_, hal2, kid_in hy h0 hyo⟩ t a' b' (by rw [← e]; exact (findF_at hyo).1) x hx) out hout
  have e1 : (altN o w).rule = (j : Int) := h1
  rw [e1]
  refine ⟨?_, ?_⟩
  · rw [← h3]
    exact .node h2 (by rw [h3]; omega) g1 g3
  · rw [yieldF_eq]
    have : (Tr.mk (j : Int) 0 out).rule = (j : Int) := rfl
    rw [this, if_neg (by omega)]
    exact g2
end Go.Proofs.Ytbnhmioijeagiaa.Ab
/- The forest that chapter 19's reference builds is one of the grammar's and not too large; a tree of a symbol is told by its rules and tokens. No condition. -/
set_option linter.unusedVariables false
set_option linter.unusedSimpArgs false
namespace Go.Proofs.Ytbnhmioijeagiaa.Ab

/-- Two trees of one symbol whose rules begin alike have the same rules; with the same tokens they are one. -/
def Tells (g : Gr) (ks : List Int) (s : Int) (x : Tr) : Prop := ∀ y, Dv g ks s y → ∀ u v, rulesT x ++ u = rulesT y ++ v → rulesT x = rulesT y ∧ ∀ u v, yieldF x ++ u = yieldF y ++ v → x = y
theorem dvs_one {g : Gr} {ks : List Int} : ∀ (l : List Int) (xs ys : List Tr), xs.length = l.length → ys.length = l.length → (∀ (q : Nat) (t : Tr), xs[q]? = some t → Tells g ks (l.getD q 0) t) → (∀ (q : Nat) (t : Tr), ys[q]? = some t → Dv g ks (l.getD q 0) t) →
    ∀ u v, rulessT xs ++ u = rulessT ys ++ v → rulessT xs = rulessT ys ∧ ∀ u v, yieldsF xs ++ u = yieldsF ys ++ v → xs = ys
  | [], [], [], _, _, _, _, u, v, _ => ⟨rfl, fun _ _ _ => rfl⟩
  | [], _ :: _, _, h, _, _, _, _, _, _ => by simp at h
  | [], _, _ :: _, _, h, _, _, _, _, _ => by simp at h
  | _ :: _, [], _, h, _, _, _, _, _, _ => by simp at h
  | _ :: _, _, [], _, h, _, _, _, _, _ => by simp at h
  | s :: l, x :: xs, y :: ys, hx, hy, h1, h2, u, v, h => by
    rw [rulessT, rulessT, List.append_assoc, List.append_assoc] at h
    obtain ⟨e1, e2⟩ := h1 0 x (by simp) y (by simpa using h2 0 y (by simp)) _ _ h
    rw [e1] at h
    have h := List.append_cancel_left h
    obtain ⟨e3, e4⟩ := dvs_one l xs ys (by simpa using hx) (by simpa using hy) (fun q t ht => by simpa using h1 (q + 1) t (by simpa using ht)) (fun q t ht => by simpa using h2 (q + 1) t (by simpa using ht)) u v h
    refine ⟨by rw [rulessT, rulessT, e1, e3], fun a b hab => ?_⟩
    rw [yieldsF, yieldsF, List.append_assoc, List.append_assoc] at hab
    have e5 := e2 _ _ hab
    subst e5
    rw [e4 a b (List.append_cancel_left hab)]
theorem dv_tells {g : Gr} {ks : List Int} {s : Int} {x : Tr} (h : Dv g ks s x) : Tells g ks s x := by
  induction h with
  | @leaf s i h0 hi hk =>
    intro y hy u v huv
    cases hy with
    | @leaf _ i2 _ hi2 hk2 =>
      refine ⟨by simp [rulesT], fun a b hab => ?_⟩
      rw [yieldF_eq, yieldF_eq] at hab
      simp only [Tr.rule, Tr.tok, if_true, List.singleton_append, List.cons.injEq] at hab
      rw [hab.1]
    | @node j kids hj h1 hl hkk => omega
  | @node j kids hj h0 hl hk ih =>
    intro y hy u v huv
    generalize hs : (ruleAt g (j : Int)).left = s at hy
    cases hy with
    | @leaf _ i2 h1 hi2 hk2 => omega
    | @node j2 kids2 hj2 h1 hl2 hkk2 =>
      rw [rulesT, if_neg (by omega), rulesT, if_neg (by omega), List.cons_append, List.cons_append, List.cons.injEq] at huv
      obtain ⟨ej, huv⟩ := huv
      obtain rfl : j = j2 := by omega
      obtain ⟨e1, e2⟩ := dvs_one (ruleAt g (j : Int)).right kids kids2 hl hl2 ih hkk2 u v huv
      refine ⟨by rw [rulesT, if_neg (by omega), rulesT, if_neg (by omega), e1], fun a b hab => ?_⟩
      rw [yieldF_eq, yieldF_eq] at hab
      have q1 : (Tr.mk (j : Int) 0 kids).rule = (j : Int) := rfl
      have q2 : (Tr.mk (j : Int) 0 kids2).rule = (j : Int) := rfl
      rw [q1, q2, if_neg (by omega)] at hab
      rw [e2 a b hab]
/-! ### what Build makes -/
theorem newL_len : ∀ (l : List Ky) (x : List Ky × Nat), x.1.length ≤ x.2 → (l.foldl newS x).1.length ≤ (l.foldl newS x).2
  | [], x, h => h
  | y :: l, x, h => by
    rw [List.foldl_cons]
    refine newL_len l _ ?_
    unfold newS
    split
    · simp only [List.length_append, List.length_singleton]; omega
    · exact h
theorem newM_len (lim : Nat) : ∀ (m : List Wy) (x : List Ky × Nat), x.1.length ≤ x.2 → (m.foldl (newW lim) x).1.length ≤ (m.foldl (newW lim) x).2
  | [], x, h => h
  | w :: m, x, h => by
    rw [List.foldl_cons]
    refine newM_len lim m _ ?_
    unfold newW
    split
    · exact newL_len _ _ h
    · exact h
theorem bldQ_len {g : Gr} {ks : List Int} {n lim : Nat} {F : List (List Bool)} : ∀ (q i : Nat) (keys : List Ky) (all : List (List Wy)) (c : Nat) {K : List Ky} {A : List (List Wy)}, bldQ g ks n F lim q i keys all c = some (K, A) → keys.length ≤ c → c ≤ lim + 1 → K.length ≤ lim + 1
  | 0, i, keys, all, c, K, A, h, _, _ => by simp [bldQ] at h
  | q + 1, i, keys, all, c, K, A, h, hk, hc => by
    rw [bldQ] at h
    cases hki : keys[i]? with
    | none =>
      rw [hki] at h
      simp only [Option.some.injEq, Prod.mk.injEq] at h
      obtain ⟨rfl, rfl⟩ := h
      omega
    | some k =>
      rw [hki] at h
      simp only at h
      split at h
      · cases h
      · rename_i hle
        have h1 := mineF_le g ks n lim F k c
        have h2 := newM_len lim (mineF g ks n F lim k c).1 (keys, (mineF g ks n F lim k c).2) (by simp only; omega)
        exact bldQ_len q _ _ _ _ h h2 (by omega)
theorem buildF_len {g : Gr} {ks : List Int} {lim : Nat} {f : Fo} (h : (buildF g ks lim).1 = some f) : f.nodes.length ≤ lim + 1 := by
  unfold buildF at h
  split at h
  · cases h
  · cases hq : bldQ g ks ks.length (chF g ks g.names.toNat ks.length) lim (lim + 2) 0 [(g.start, 0, (ks.length : Int))] [] 1 with
    | none => rw [hq] at h; cases h
    | some x =>
      rw [hq] at h
      obtain ⟨K, A⟩ := x
      have := bldQ_len _ _ _ _ _ hq (by simp) (by omega)
      rw [← Option.some.inj h]
      simp only [bldF, List.length_map, sortK_len]
      exact this
/-- As blt_of, and each node's symbol. -/
theorem blt_of2 {g : Gr} {ks : List Int} {N lim : Nat} {f : Fo} (hc : chkF g = 0) (hN : g.names = N) (h : (buildF g ks lim).1 = some f) : ∃ F o, Blt g ks N F o f ∧ ∀ (i : Nat) (k : Ky), o[i]? = some k → ∃ al, f.nodes[i]? = some ⟨k.1, k.2.1, k.2.2, al⟩ := by
  have hform : (formF g).2 = 0 := by
    unfold chkF at hc
    split at hc
    · rename_i h1; exact absurd hc h1
    · rename_i h1; exact Classical.not_not.1 h1
  obtain ⟨fo, hN'⟩ := form_ok hform
  have hNN : g.names.toNat = N := by omega
  rw [hNN] at fo
  have hcyc : (cycF g N).any id = false := by
    unfold chkF at hc
    rw [if_neg (by simp [hform]), hNN] at hc
    split at hc
    · cases hc
    · split at hc
      · cases hc
      · rename_i h1; simpa using h1
  have hlt : ∀ r ∈ g.rules, r.left.toNat < N := fun r hr => by have := fo.left r hr; unfold isName at this; omega
  have hl0 : ∀ r ∈ g.rules, 0 ≤ r.left := fun r hr => by have := fo.left r hr; unfold isName at this; omega
  obtain ⟨K, A, rfl, hq, hK, hr⟩ := buildF_some fo hN h
  have hS := chF_sup (ks := ks) (n := ks.length) fo.sym hlt
  refine ⟨_, sortK aheadF K, ⟨fo, hN, hcyc, hS, by simp [bldF], fun i k hi => node_is hS hl0 hq hK hi, ?_⟩, fun i k hi => ?_⟩
  · have hrm : (g.start, (0 : Int), (ks.length : Int)) ∈ sortK aheadF K := sortK_mem.2 (List.mem_of_getElem? hr)
    obtain ⟨h1, h2, h3⟩ := findF_at hrm
    refine ⟨(findF (g.start, (0 : Int), (ks.length : Int)) (sortK aheadF K) 0).toNat, ?_, h1⟩
    unfold bldF
    simp only
    rw [List.getD_eq_getElem?_getD, hr, Option.getD_some]
    omega
  · refine ⟨sortK lowF ((A.getD (findF k K 0).toNat []).map (altN (sortK aheadF K))), ?_⟩
    unfold bldF
    simp only
    rw [List.getElem?_map, hi]
    rfl
theorem way_fit {g : Gr} {ks : List Int} {N n : Nat} {F : List (List Bool)} {o : List Ky} {f : Fo} (hN : g.names = N) (hsm : ∀ (i : Nat) (k : Ky), o[i]? = some k → ∃ al, f.nodes[i]? = some ⟨k.1, k.2.1, k.2.2, al⟩) : ∀ {l : List Int} {fr to : Nat} {w : List Ky}, (∀ s ∈ l, isSym g s) → WayOk ks n F l fr to w → (∀ y ∈ w, 0 ≤ y.1 → y ∈ o) → w.length = l.length ∧ ∀ q, q < l.length → fitB g f ((w.map (kidN o)).getD q 0) (l.getD q 0) = true
  | [], fr, to, w, _, ⟨h, _⟩, _ => by subst h; exact ⟨rfl, by simp⟩
  | s :: l, fr, to, w, hs, ⟨j, w', hw, h1, h2, h3⟩, ho => by
    subst hw
    obtain ⟨e1, e2⟩ := way_fit hN hsm (fun s h => hs s (by simp [h])) h3 (fun y hy => ho y (by simp [hy]))
    refine ⟨by simp [e1], fun q hq => ?_⟩
    cases q with
    | zero =>
      have e3 : ((kyOf s fr j :: w').map (kidN o)).getD 0 0 = kidN o (kyOf s fr j) := rfl
      have e4 : (s :: l).getD 0 0 = s := rfl
      rw [e3, e4]
      rcases kyOf_is hN (hs s (by simp)) h1 h2 with ⟨g1, rfl, g3, g4, g5⟩ | ⟨t, rfl, g1, g2, g3, g5⟩
      · rw [g5]
        have hk : kidN o (-1, (fr : Int), ((fr + 1 : Nat) : Int)) = -1 - (fr : Int) := by unfold kidN; rw [if_pos (by simp)]
        rw [hk]
        unfold fitB
        rw [if_neg (by unfold isName; omega)]
        exact decide_eq_true (by omega)
      · have hy := ho (kyOf (t : Int) fr j) (by simp) (by rw [g5]; simp only; omega)
        obtain ⟨f1, f2, f3⟩ := findF_at hy
        have hk : kidN o (kyOf ((t : Nat) : Int) fr j) = findF (kyOf ((t : Nat) : Int) fr j) o 0 := by unfold kidN; rw [if_neg (by rw [g5]; simp only; omega)]
        rw [hk]
        obtain ⟨al, hal⟩ := hsm _ _ f1
        unfold fitB
        rw [if_pos (by unfold isName; omega), List.getD_eq_getElem?_getD, hal]
        refine decide_eq_true ⟨f2, ?_⟩
        simp only [Option.getD_some]
        rw [g5]
    | succ q =>
      have := e2 q (by simpa using hq)
      simpa using this
/-- Build's forest is one of the grammar's. -/
theorem blt_fits {g : Gr} {ks : List Int} {N : Nat} {F : List (List Bool)} {o : List Ky} {f : Fo} (hc : chkF g = 0) (B : Blt g ks N F o f) (hsm : ∀ (i : Nat) (k : Ky), o[i]? = some k → ∃ al, f.nodes[i]? = some ⟨k.1, k.2.1, k.2.2, al⟩) : FitsP g f := by
  have hform : (formF g).2 = 0 := by
    unfold chkF at hc
    split at hc
    · rename_i h1; exact absurd hc h1
    · rename_i h1; exact Classical.not_not.1 h1
  refine ⟨hform, blt_form B, ?_⟩
  rw [whole_all, List.all_eq_true]
  intro nd hnd
  obtain ⟨i, hi, rfl⟩ := List.mem_iff_getElem.1 hnd
  have hio : i < o.length := by rw [← B.len]; exact hi
  obtain ⟨s, a, b, m, e, hn⟩ := B.node i _ (List.getElem?_eq_getElem hio)
  obtain ⟨al, hal⟩ := hsm i _ (List.getElem?_eq_getElem hio)
  have hnd2 : f.nodes[i] = ⟨o[i].1, o[i].2.1, o[i].2.2, al⟩ := by
    rw [List.getElem?_eq_getElem hi] at hal; exact Option.some.inj hal
  have halts : altsOf f i = al := by
    unfold altsOf; rw [List.getElem?_eq_getElem hi, hnd2]; rfl
  rw [hnd2]
  unfold nodeB
  rw [List.all_eq_true]
  intro x hx
  rw [← halts, hn.alts] at hx
  obtain ⟨w, hw, rfl⟩ := List.mem_map.1 (sortK_mem.1 hx)
  obtain ⟨j, h1, h2, h3, h4⟩ := hn.mine.way w hw
  have hrm := List.mem_of_getElem? (ruleAt_at (g := g) (i := (j : Int)) (by omega) (by omega))
  obtain ⟨e1, e2⟩ := way_fit (f := f) B.hN hsm (B.fo.sym _ hrm) h4 (hn.kids w hw)
  have hr : (altN o w).rule = (j : Int) := h1
  have hk : (altN o w).kids = w.2.map (kidN o) := rfl
  unfold ofB
  rw [hr, hk, Bool.and_eq_true, List.all_eq_true]
  refine ⟨decide_eq_true ⟨⟨by omega, by omega⟩, by rw [h3, e], by simp [e1]⟩, fun q hq => ?_⟩
  rw [List.mem_range, List.length_map, e1] at hq
  exact e2 q hq
theorem blt_pf {g : Gr} {ks : List Int} {N : Nat} {F : List (List Bool)} {o : List Ky} {f : Fo} (B : Blt g ks N F o f) {i : Nat} (hw : WF f i) : PF (trL f i) := by
  have hi : i < f.nodes.length := by cases hw; assumption
  have hio : i < o.length := by rw [← B.len]; exact hi
  obtain ⟨s, a, b, m, e, hn⟩ := B.node i _ (List.getElem?_eq_getElem hio)
  intro x hx y hy u v huv
  have h1 := tree_is B hw s a b hn.key x hx
  have h2 := tree_is B hw s a b hn.key y hy
  exact (dv_tells h1.1 y h2.1 u v huv).1
/-- Two trees, each at least as good as the other one, are one. -/
theorem blt_one {g : Gr} {ks : List Int} {N : Nat} {F : List (List Bool)} {o : List Ky} {f : Fo} (B : Blt g ks N F o f) {i : Nat} (hw : WF f i) {x y : Tr} (hx : x ∈ trL f i) (hy : y ∈ trL f i) (h1 : leT g x y) (h2 : leT g y x) : x = y := by
  have hi : i < f.nodes.length := by cases hw; assumption
  have hio : i < o.length := by rw [← B.len]; exact hi
  obtain ⟨s, a, b, m, e, hn⟩ := B.node i _ (List.getElem?_eq_getElem hio)
  have d1 := tree_is B hw s a b hn.key x hx
  have d2 := tree_is B hw s a b hn.key y hy
  have hr : rulesT x = rulesT y := by
    unfold leT at h1 h2
    rcases h1 with h1 | ⟨h1, k1⟩
    · rcases h2 with h2 | ⟨h2, _⟩ <;> omega
    · rcases h2 with h2 | ⟨h2, k2⟩
      · omega
      · rw [cmpL_swap] at k2
        exact cmpL_eq (by omega)
  refine (dv_tells d1.1 y d2.1 [] [] (by rw [hr])).2 [] [] ?_
  rw [d1.2, d2.2]
end Go.Proofs.Ytbnhmioijeagiaa.Ab

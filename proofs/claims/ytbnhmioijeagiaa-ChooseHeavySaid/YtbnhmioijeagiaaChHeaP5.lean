/- Texts of this proof, one behind the other (Bld2, ChB0, Ac0, ChK, ChB, ChC, ChD, ChE, Fil8, ChP, Hv2, SmS, SdP, SmW, ChG, ChF, SdQ, ChS1, Neb). No condition. -/
import Derived.Test.YtbnhmioijeagiaaChHeaP4
import Derived.LaidEqlPtr
/- Chapter 19's reference, Build: the walk, its beginning. No condition. -/
set_option linter.unusedVariables false
set_option linter.unusedSimpArgs false
namespace Go.Proofs.Ytbnhmioijeagiaa.Ab
section
variable {P : Program} {T : List TI} {N : Nat} {ops : Array Oper} {Q : Exit → St → Prop} {o : Oper} {F : Env} {M : List Ob}
theorem seqO_alloc (hT : TOk P T) {kp : List Ob} {al : List Nat} {i : Nat} {ll : List Oper} {m : Nat} {e d : Nat} {ti : TI} (hi : al.contains i = true) (ho : o.op = .alloc e) (hk : known T e = some ti) (hkp : ∀ o ∈ kp, o ∈ M) (hg : guardOn ops o F = some true) (hd : o.dst = some d) (hN : Nat.blt d N = true)
    {cs : List A} (hcs : normL (ti.zero.map ofZ) = some cs) (next : ∀ b, SeqO P N ops Q kp al (i + 1) ((d, .ref b 0) :: F) (⟨some b, ti.zero.length, cs⟩ :: M) m ll) : SeqO P N ops Q kp al i F M (m + 1) (o :: ll) := by
  refine SeqO.make (x := fun z => .ref (z.headD 0) 0) (M2 := fun z => ⟨some (z.headD 0), ti.zero.length, cs⟩ :: M) hi (fun E hE rest Q next => ?_) (fun z o ho => List.mem_cons_of_mem _ (hkp o ho)) fun b => ?_
  · exact aops_alloc hT ho hk ((agree_guard hE).trans hg) hd hN hcs fun b => by have := next [b]; rwa [hd] at this
  · rw [hd]; exact next _
end

attribute [local irreducible] thenA inBlockA ACode AOps put IntKind.wrap

theorem ndK_len (n : Nd) : (ndC n).length = 4 := rfl
theorem bcut_calls {m : Nat} (hm : m ≤ 100000) (M : List Ob) : ACalls Try.prog 36 [.int .i64 m, .int .i64 0, .int .i64 100000] M (fun r M' => r = .int .i64 m ∧ M' = M) := by
  refine acalls_of_code 18 Try.func36 rfl rfl rfl ?_
  repeat' (first | refine aops_end ?_ | refine aops_pbf tok rfl (by first | omega | decide) rfl rfl rfl ?_ | refine aops_p tok rfl rfl rfl rfl ?_ | refine acode_if rfl ?_ | refine acode_seq ?_ | refine acode_region ?_ | refine acode_block ?_ | refine acode_skip ?_ | refine then_n ?_ | refine block_n ?_)
  refine acode_ret ?_
  skip
  exact ⟨_, ⟨rfl, rfl⟩, resOf_tmp rfl⟩
def allW (all : List (List Wy)) : List A := all.map fun m => A.psl m.length (encs wyCC m)
theorem allW_len (all : List (List Wy)) : (allW all).length = all.length := by simp [allW]
theorem wyCC_len (w : Wy) : (wyCC w).length = 2 := rfl
theorem encs_way (j : Int) (l : List (List Ky)) : encs wyCC (l.map fun w => (j, w)) = encs (wyC j) l := by
  induction l with
  | nil => rfl
  | cons w l ih => simp only [encs, List.map_cons, List.flatMap_cons] at *; rw [ih]; rfl
def BuildR (g : Gr) (ks : List Int) (lim : Nat) (M : List Ob) : A → List Ob → Prop := fun r M' => ((∃ a e, e ≠ 0 ∧ (buildF g ks lim).1 = none ∧ r = .tup [foA ⟨[], 0⟩, .int .i64 a, .int .i64 e]) ∨ (∃ f, (buildF g ks lim).1 = some f ∧ FoOk f ∧ FoRng f ∧ r = .tup [foA f, .int .i64 ks.length, .int .i64 0])) ∧ M' = M

set_option maxHeartbeats 32000000 in
theorem build_calls {g : Gr} {ks : List Int} {N n lim : Nat} (hg : GrOk g) (h : chkF g = 0) (hN : g.names = N) (hks : ks.length = n) (hn : n ≤ 2000) (hlim : lim ≤ 100000) (M : List Ob) :
    ACalls Try.prog 12 [grA g, .psl ks.length (ints ks), .int .i64 lim] M (BuildR g ks lim M) := by
  subst hks
  have hform : (formF g).2 = 0 := by
    unfold chkF at h
    split at h
    · rename_i h1; exact absurd h h1
    · rename_i h1; exact Classical.not_not.1 h1
  obtain ⟨fo, hN'⟩ := form_ok hform
  have hNN : g.names.toNat = N := by omega
  rw [hNN] at fo
  have hN1 := fo.n1
  have hlt : ∀ r ∈ g.rules, r.left.toNat < N := fun r hr => by have := fo.left r hr; unfold isName at this; omega
  have hrl := fo.rl
  have hB : buildF g ks lim = if hasF N ks.length (chF g ks N ks.length) g.start 0 ks.length = false then ((none : Option Fo), (10 : Int)) else match bldQ g ks ks.length (chF g ks N ks.length) lim (lim + 2) 0 [(g.start, 0, (ks.length : Int))] [] 1 with
    | none => (none, 9)
    | some x => (some (bldF x.1 x.2), 0) := by unfold buildF; rw [hNN]; rfl
  have hFok : FOk (N * (ks.length + 1)) ks.length (chF g ks N ks.length) := chF_ok hlt
  refine acalls_of_code 312 Try.func12 rfl rfl rfl ?_
  repeat (first | refine acode_seq ?_ | refine acode_region ?_)
  refine aops_boxf rfl rfl rfl rfl rfl rfl rfl ?_
  skip
  refine aops_alloc tok rfl rfl rfl rfl rfl rfl fun fb => ?_
  repeat (first | refine aops_end ?_ | refine aops_p tok rfl rfl rfl rfl ?_ | refine acode_seq ?_ | refine acode_region ?_)
  refine aops_callx Try.func33 rfl rfl rfl rfl (newChart_calls hg h hN rfl hn _) rfl rfl rfl ?_
  generalize chF g ks N ks.length = F at *
  repeat' (first | refine aops_end ?_ | (refine aops_pn tok rfl rfl rfl rfl ?_ ?_ <;> intro e_) | refine aops_p tok rfl rfl rfl rfl ?_ | refine acode_it rfl ?_ | refine acode_if rfl ?_ | refine aops_stn tok rfl rfl rfl rfl rfl rfl rfl rfl rfl ?_ | refine acode_seq ?_ | refine acode_region ?_ | refine acode_skip ?_ | refine then_n ?_)
  try any_goals (exfalso; omega)
  refine aops_callx Try.func34 rfl rfl rfl rfl (has_calls hN rfl hn hFok _) rfl rfl rfl ?_
  cases hh : hasF N ks.length F g.start 0 ks.length with
  | false =>
    rw [hh, if_pos rfl] at hB
    repeat' (first | refine aops_end ?_ | refine aops_p tok rfl rfl rfl rfl ?_ | refine acode_it rfl ?_ | refine acode_seq ?_ | refine acode_region ?_)
    refine aops_call Try.func35 rfl rfl rfl rfl (prefix_calls hg h fo hform hN (by omega) _) rfl rfl ?_
    rintro y M1 ⟨⟨a0, rfl⟩, hM1⟩
    rw [hM1]
    repeat (first | refine aops_put rfl ?_ | refine aops_end ?_ | refine aops_p tok rfl rfl rfl rfl ?_ | refine aops_stn tok rfl rfl rfl rfl rfl rfl rfl rfl rfl ?_)
    refine acode_freezeV (V := [⟨some fb, 2, [.nils, .int .i64 0]⟩]) [(6, .pp (foC ⟨[], 0⟩)), (7, .int .i64 a0), (8, .int .i64 10)] ⟨.ref (.head _) (.cons .nils (.cons (.refl _) .nil)), .refl _, .refl _, trivial⟩ ?_
    refine acode_ret ?_
    repeat (refine ret_then ?_)
    exact ⟨_, ⟨.inl ⟨a0, 10, by omega, by rw [hB], rfl⟩, rfl⟩, _, rfl, resOf_pp tok rfl rfl rfl⟩
  | true =>
    rw [hh, if_neg (by simp)] at hB
    repeat' (first | refine aops_end ?_ | refine aops_p tok rfl rfl rfl rfl ?_ | refine acode_if rfl ?_ | refine acode_seq ?_ | refine acode_region ?_ | refine acode_skip ?_ | refine then_n ?_)
    refine aops_callx Try.func36 rfl rfl rfl rfl (bcut_calls hlim _) rfl rfl rfl ?_
    repeat (first | refine aops_end ?_ | refine aops_p tok rfl rfl rfl rfl ?_ | refine acode_seq ?_ | refine acode_region ?_)
    refine aops_lito tok rfl rfl rfl rfl rfl rfl rfl fun kb => ?_
    repeat (first | refine aops_end ?_ | refine aops_p tok rfl rfl rfl rfl ?_ | refine acode_seq ?_ | refine acode_region ?_ | refine acode_block ?_)
    refine acode_adopt 13 1 rfl ?_
    have hk0 : kyOk N ks.length (g.start, 0, (ks.length : Int)) := by
      have := fo.st; unfold isName at this
      exact ⟨this.1, by simp only; omega, by simp, by simp, by simp⟩
    generalize hfin : bldQ g ks ks.length F lim (lim + 2) 0 [(g.start, 0, (ks.length : Int))] [] 1 = fin at hB
    refine acode_loopS (ι := Nat × Nat × List Ky × List (List Wy) × Nat × (Option Nat × Nat) × (Option Nat × Nat)) (fun p => [(2, .int .i64 lim), (3, .pp (grC g)), (6, .ref fb 0), (9, .pp (chC g ks N ks.length F)), (11, .int .i64 ks.length), (12, .own p.2.2.2.2.2.1.1 p.2.2.1.length p.2.2.2.2.2.1.2), (13, .own p.2.2.2.2.2.2.1 p.2.2.2.1.length p.2.2.2.2.2.2.2), (14, .int .i64 p.2.2.2.2.1), (15, .int .i64 p.2.1)]) (fun p => ⟨p.2.2.2.2.2.2.1, p.2.2.2.2.2.2.2 * 1, allW p.2.2.2.1⟩ :: ⟨p.2.2.2.2.2.1.1, p.2.2.2.2.2.1.2 * 3, encs f3C p.2.2.1⟩ :: ⟨some fb, 2, [.nils, .int .i64 0]⟩ :: M) (fun p => p.1)
      (fun p => bldQ g ks ks.length F lim p.1 p.2.1 p.2.2.1 p.2.2.2.1 p.2.2.2.2.1 = fin ∧ p.1 + p.2.1 = lim + 2 ∧ p.2.1 ≤ p.2.2.1.length ∧ p.2.2.2.1.length = p.2.1 ∧ p.2.2.1.length ≤ p.2.2.2.2.1 ∧ p.2.2.2.2.1 ≤ lim + 1 ∧ (∀ k ∈ p.2.2.1, kyOk N ks.length k) ∧ 0 < p.2.2.1.length ∧ AllOk N ks.length lim p.2.2.2.1) (lim + 2, 0, [(g.start, 0, (ks.length : Int))], [], 1, (some kb, 1), (none, 0)) ⟨hfin, by simp, by simp, by simp, by simp, by simp only; omega, fun k hk => by rw [List.mem_singleton.1 hk]; exact hk0, by simp, by simp [AllOk]⟩ ⟨rfl, rfl, rfl, rfl, rfl, rfl, rfl, rfl, rfl, trivial⟩ rfl ?_
    clear hfin hk0
    rintro ⟨q, i, keys, all, c, ⟨kb, kcap⟩, ab, acap⟩ ⟨hfin, hqi, hik, hal, hkc, hcl, hko, hk1, hall⟩
    simp only at hfin hqi hik hal hkc hcl hko hk1 hall ⊢
    obtain ⟨q', rfl⟩ : ∃ q', q = q' + 1 := ⟨q - 1, by omega⟩
    unfold bldQ at hfin
    repeat (first | refine aops_end ?_ | refine aops_p tok rfl rfl rfl rfl ?_ | refine acode_seq ?_ | refine acode_region ?_)
    refine acode_id rfl (fun e => ?_) (fun e => ?_)
    · have hil : i < keys.length := by omega
      obtain ⟨k, hk⟩ : ∃ k, keys[i]? = some k := ⟨keys[i], List.getElem?_eq_getElem hil⟩
      rw [hk] at hfin
      simp only at hfin
      refine acode_somed 12 rfl (by omega) fun cb hcb => ?_
      subst hcb
      have hkk := hko k (List.mem_of_getElem? hk)
      obtain ⟨s, fr, to⟩ := k
      obtain ⟨s0, s1, f0, f1, t1⟩ := hkk
      simp only at s0 s1 f0 f1 t1
      obtain ⟨fr, rfl⟩ := Int.eq_ofNat_of_zero_le f0
      obtain ⟨to, rfl⟩ := Int.eq_ofNat_of_zero_le (show 0 ≤ to by omega)
      have hc0 := f3_cell (q := 0) hk rfl
      have hc1 := f3_cell (q := 1) hk rfl
      have hc2 := f3_cell (q := 2) hk rfl
      have hmok := mineF_ok (g := g) (ks := ks) (n := ks.length) (F := F) (lim := lim) (k := (s, (fr : Int), (to : Int))) fo hN (by simp only [Int.toNat_natCast]; omega) c
      have hmle := mineF_le g ks ks.length lim F (s, (fr : Int), (to : Int)) c
      generalize hmi : mineF g ks ks.length F lim (s, (fr : Int), (to : Int)) c = mi at hfin hmok hmle
      unfold mineF at hmi
      repeat (first | refine acode_seq ?_ | refine acode_region ?_ | refine acode_block ?_ | refine acode_skip ?_ | refine then_n ?_ | refine block_n ?_)
      repeat (refine aops_p tok rfl rfl rfl rfl ?_)
      refine aops_end ?_
      refine acode_adopt 16 2 rfl ?_
      refine acode_seq ?_
      refine acode_joinI (ι := Option Nat × Nat) (fun p => [(2, .int .i64 lim), (3, .pp (grC g)), (6, .ref fb 0), (9, .pp (chC g ks N ks.length F)), (11, .int .i64 ks.length), (12, .own (some cb) keys.length kcap), (13, .own ab all.length acap), (14, .int .i64 mi.2), (15, .int .i64 i), (16, .own p.1 mi.1.length p.2)]) (fun p => ⟨p.1, p.2 * 2, encs wyCC mi.1⟩ :: ⟨ab, acap * 1, allW all⟩ :: ⟨some cb, kcap * 3, encs f3C keys⟩ :: ⟨some fb, 2, [.nils, .int .i64 0]⟩ :: M) (fun p => mi.1.length ≤ mi.2 ∧ mi.2 ≤ 2 * lim + 1) ?_ ?_
      · repeat (first | refine aops_end ?_ | refine aops_p tok rfl rfl rfl rfl ?_ | refine acode_seq ?_ | refine acode_region ?_ | refine acode_block ?_)
        refine acode_loopS (ι := Nat × List Wy × Nat × Option Nat × Nat) (fun p => [(2, .int .i64 lim), (3, .pp (grC g)), (6, .ref fb 0), (9, .pp (chC g ks N ks.length F)), (11, .int .i64 ks.length), (12, .own (some cb) keys.length kcap), (13, .own ab all.length acap), (14, .int .i64 p.2.2.1), (15, .int .i64 i), (16, .own p.2.2.2.1 p.2.1.length p.2.2.2.2), (17, .int .i64 p.1)]) (fun p => ⟨p.2.2.2.1, p.2.2.2.2 * 2, encs wyCC p.2.1⟩ :: ⟨ab, acap * 1, allW all⟩ :: ⟨some cb, kcap * 3, encs f3C keys⟩ :: ⟨some fb, 2, [.nils, .int .i64 0]⟩ :: M) (fun p => g.rules.length - p.1) (fun p => p.1 ≤ g.rules.length ∧ ((List.range g.rules.length).drop p.1).foldl (mineS g ks ks.length F lim (s, (fr : Int), (to : Int))) (p.2.1, p.2.2.1) = mi ∧ p.2.1.length ≤ p.2.2.1 ∧ p.2.2.1 ≤ 2 * lim + 1) (0, [], c, none, 0) ⟨Nat.zero_le _, hmi, by simp, by simp only; omega⟩ ⟨rfl, rfl, rfl, rfl, rfl, rfl, rfl, rfl, rfl, rfl, rfl, trivial⟩ rfl ?_
        clear hmi
        rintro ⟨j, mine, c, mo, mc⟩ ⟨hj, hmi, hml, hc2l⟩
        simp only at hj hmi hml hc2l ⊢
        by_cases hjl : j < g.rules.length
        · by_cases hcl2 : c ≤ lim
          · rw [range_drop hjl, List.foldl_cons] at hmi
            have hjr : g.rules[(j : Int).toNat]? = some (ruleAt g j) := ruleAt_at (by omega) (by omega)
            have hrm := List.mem_of_getElem? hjr
            have hjr2 : g.rules[j]? = some (ruleAt g j) := by simpa using hjr
            have hst : mineS g ks ks.length F lim (s, (fr : Int), (to : Int)) (mine, c) j = if (ruleAt g j).left = s then (mine ++ (waysF ks ks.length F (ruleAt g j).right fr to lim).map (fun w => ((j : Int), w)), c + (waysF ks ks.length F (ruleAt g j).right fr to lim).length) else (mine, c) := by
              unfold mineS
              by_cases hls : (ruleAt g j).left = s
              · rw [if_pos ⟨hcl2, hls⟩, if_pos hls]; rfl
              · rw [if_neg (fun h => hls h.2), if_neg hls]
            have hwl := waysF_len (ks := ks) (n := ks.length) (F := F) (ruleAt g j).right fr to lim
            have hwc := ways_calls (g := g) (ks := ks) (N := N) (n := ks.length) (F := F) (r := (j : Int)) hN rfl hn (by have := fo.k1; omega) hFok (ruleAt g j).right fr to lim (by have := fo.len _ hrm; omega) (fo.sym _ hrm) (by omega) (by omega) (by omega)
            rw [hst] at hmi
            generalize waysF ks ks.length F (ruleAt g j).right fr to lim = ws at *
            repeat' (first | refine aops_end ?_ | refine aops_pbt tok rfl (by first | omega | decide) rfl rfl rfl ?_ | refine aops_pet tok rfl (by omega) rfl rfl rfl ?_ | refine aops_p tok rfl rfl rfl rfl ?_ | refine acode_it rfl ?_ | refine acode_seq ?_ | refine acode_region ?_ | refine acode_block ?_ | refine acode_skip ?_ | refine then_n ?_)
            refine acode_drawT 12 mixed (by kernel_rfl) (by kernel_rfl) ?_
            repeat (refine seqT_p tok rfl rfl rfl rfl ?_)
            refine seqT_ix tok (ruC (ruleAt g j)) rfl rfl rfl rfl (by omega) (by omega) (by simp [ruC]) (encs_at (e := ruC) (s := 3) (fun _ => rfl) hjr) rfl rfl rfl ?_
            repeat (refine seqT_p tok rfl rfl rfl rfl ?_)
            refine seqT_ixo tok rfl rfl rfl rfl (by omega) (by omega) rfl rfl rfl ?_
            repeat (refine seqT_p tok rfl rfl rfl rfl ?_)
            refine seqT_ld tok 2 (y := .int .i64 s) rfl rfl rfl rfl (by rw [headed_eq]; exact hc0) rfl rfl rfl ?_
            by_cases hls : (ruleAt g j).left = s
            · rw [if_pos hls] at hmi
              repeat' ((refine seqT_pn tok rfl rfl rfl rfl ?_ ?_ <;> intro e_))
              try any_goals (exfalso; omega)
              refine SeqT.done ?_
              repeat' (first | refine aops_end ?_ | refine acode_if rfl ?_ | refine acode_seq ?_ | refine acode_skip ?_ | refine then_n ?_)
              refine acode_drawT 20 mixed (by kernel_rfl) (by kernel_rfl) ?_
              repeat (refine seqT_p tok rfl rfl rfl rfl ?_)
              refine seqT_ix tok (ruC (ruleAt g j)) rfl rfl rfl rfl (by omega) (by omega) (by simp [ruC]) (encs_at (e := ruC) (s := 3) (fun _ => rfl) hjr) rfl rfl rfl ?_
              repeat (refine seqT_p tok rfl rfl rfl rfl ?_)
              refine seqT_ixo tok rfl rfl rfl rfl (by omega) (by omega) rfl rfl rfl ?_
              repeat (refine seqT_p tok rfl rfl rfl rfl ?_)
              refine seqT_ld tok 2 (y := .int .i64 fr) rfl rfl rfl rfl (by rw [headed_eq]; exact hc1) rfl rfl rfl ?_
              repeat (refine seqT_p tok rfl rfl rfl rfl ?_)
              refine seqT_ixo tok rfl rfl rfl rfl (by omega) (by omega) rfl rfl rfl ?_
              repeat (refine seqT_p tok rfl rfl rfl rfl ?_)
              refine seqT_ld tok 2 (y := .int .i64 to) rfl rfl rfl rfl (by rw [headed_eq]; exact hc2) rfl rfl rfl ?_
              repeat (refine seqT_p tok rfl rfl rfl rfl ?_)
              refine seqT_call _ Try.func37 rfl rfl rfl rfl (hwc _) rfl rfl rfl ?_
              skip
              refine SeqT.done ?_
              repeat (first | refine aops_end ?_ | refine aops_a tok rfl (by omega) (by omega) rfl rfl rfl ?_ | refine aops_p tok rfl rfl rfl rfl ?_ | refine acode_seq ?_ | refine acode_region ?_)
              refine aops_append tok 0 (m := ws.length) (ds := encs (wyC j) ws) rfl rfl rfl (.inl rfl) rfl rfl (encs_len wyCC_len mine) (encs_len (wyC_len _) ws) (encs_cell (fun _ => rfl) _) rfl (by show _ * 32 ≤ _; omega) (by omega) rfl rfl fun ob' cap' => ?_
              repeat (first | refine aops_put rfl ?_ | refine aops_end ?_ | refine aops_endb ?_ | refine aops_a tok rfl (by omega) (by omega) rfl rfl rfl ?_ | refine aops_p tok rfl rfl rfl rfl ?_ | refine acode_region ?_ | refine then_n ?_)
              exact ⟨(j + 1, mine ++ ws.map (fun w => ((j : Int), w)), c + ws.length, ob', cap'), ⟨by simp only; omega, hmi, by simp only [List.length_append, List.length_map]; omega, by simp only; omega⟩, by simp only; omega, ⟨rfl, rfl, rfl, rfl, rfl, rfl, rfl, rfl, rfl, by rw [List.length_append, List.length_map]; rfl, rfl, trivial⟩, by simp only [encs_app, encs_way]; rfl⟩
            · rw [if_neg hls] at hmi
              repeat' ((refine seqT_pn tok rfl rfl rfl rfl ?_ ?_ <;> intro e_))
              try any_goals (exfalso; omega)
              refine SeqT.done ?_
              repeat' (first | refine aops_end ?_ | refine acode_it rfl ?_)
              refine acode_exit ?_
              repeat (first | refine exit_then ?_ | refine exit_here ?_ | refine then_n ?_)
              repeat (first | refine aops_end ?_ | refine aops_a tok rfl (by omega) (by omega) rfl rfl rfl ?_ | refine aops_p tok rfl rfl rfl rfl ?_ | refine acode_region ?_)
              exact ⟨(j + 1, mine, c, mo, mc), ⟨by simp only; omega, hmi, hml, hc2l⟩, by simp only; omega, ⟨rfl, rfl, rfl, rfl, rfl, rfl, rfl, rfl, rfl, rfl, rfl, trivial⟩, rfl⟩
          · have hfull : ∀ L : List Nat, L.foldl (mineS g ks ks.length F lim (s, (fr : Int), (to : Int))) (mine, c) = (mine, c) := by
              intro L
              induction L with
              | nil => rfl
              | cons x L ih => rw [List.foldl_cons, show mineS g ks ks.length F lim (s, (fr : Int), (to : Int)) (mine, c) x = (mine, c) by unfold mineS; rw [if_neg (fun h => hcl2 h.1)]]; exact ih
            rw [hfull] at hmi
            subst hmi
            repeat' (first | refine aops_end ?_ | refine aops_pbt tok rfl (by first | omega | decide) rfl rfl rfl ?_ | refine aops_pbf tok rfl (by first | omega | decide) rfl rfl rfl ?_ | refine aops_pet tok rfl (by omega) rfl rfl rfl ?_ | refine aops_p tok rfl rfl rfl rfl ?_ | refine acode_if rfl ?_ | refine acode_seq ?_ | refine acode_region ?_)
            refine acode_exit ?_
            repeat (first | refine exit_then ?_ | refine exit_here ?_ | refine then_n ?_)
            exact ⟨(mo, mc), ⟨hml, hc2l⟩, ⟨rfl, rfl, rfl, rfl, rfl, rfl, rfl, rfl, rfl, rfl, trivial⟩, rfl⟩
        · rw [List.drop_of_length_le (by simp; omega), List.foldl_nil] at hmi
          subst hmi
          repeat' (first | refine aops_end ?_ | refine aops_o rfl rfl rfl ?_ | refine aops_pbf tok rfl (by first | omega | decide) rfl rfl rfl ?_ | refine aops_p tok rfl rfl rfl rfl ?_ | refine acode_if rfl ?_ | refine acode_seq ?_ | refine acode_region ?_)
          refine acode_exit ?_
          repeat (first | refine exit_then ?_ | refine exit_here ?_ | refine then_n ?_)
          exact ⟨(mo, mc), ⟨hml, hc2l⟩, ⟨rfl, rfl, rfl, rfl, rfl, rfl, rfl, rfl, rfl, rfl, trivial⟩, rfl⟩
      rintro ⟨mo, mc⟩ ⟨hml, hc2l⟩
      simp only at hml hc2l ⊢
      refine acode_pub0 16 2 rfl rfl (encs_len wyCC_len _) rfl ?_
      generalize hnk : mi.1.foldl (newW lim) (keys, mi.2) = nk at hfin
      repeat (first | refine acode_seq ?_ | refine acode_region ?_ | refine acode_block ?_ | refine acode_skip ?_ | refine then_n ?_ | refine block_n ?_)
      repeat (refine aops_p tok rfl rfl rfl rfl ?_)
      refine aops_end ?_
      refine acode_joinI (ι := Option Nat × Nat) (fun p => [(2, .int .i64 lim), (3, .pp (grC g)), (6, .ref fb 0), (9, .pp (chC g ks N ks.length F)), (11, .int .i64 ks.length), (12, .own p.1 nk.1.length p.2), (13, .own ab all.length acap), (14, .int .i64 nk.2), (15, .int .i64 i), (16, .psl mi.1.length (encs wyCC mi.1))]) (fun p => ⟨ab, acap * 1, allW all⟩ :: ⟨p.1, p.2 * 3, encs f3C nk.1⟩ :: ⟨some fb, 2, [.nils, .int .i64 0]⟩ :: M) (fun p => (∀ k ∈ nk.1, kyOk N ks.length k) ∧ keys.length ≤ nk.1.length ∧ nk.1.length ≤ nk.2 ∧ nk.2 ≤ 2 * lim + 9) ?_ ?_
      · repeat (refine acode_block ?_)
        refine acode_loopS (ι := Nat × List Ky × Nat × Option Nat × Nat) (fun p => [(2, .int .i64 lim), (3, .pp (grC g)), (6, .ref fb 0), (9, .pp (chC g ks N ks.length F)), (11, .int .i64 ks.length), (12, .own p.2.2.2.1 p.2.1.length p.2.2.2.2), (13, .own ab all.length acap), (14, .int .i64 p.2.2.1), (15, .int .i64 i), (16, .psl mi.1.length (encs wyCC mi.1)), (19, .int .i64 p.1)]) (fun p => ⟨ab, acap * 1, allW all⟩ :: ⟨p.2.2.2.1, p.2.2.2.2 * 3, encs f3C p.2.1⟩ :: ⟨some fb, 2, [.nils, .int .i64 0]⟩ :: M) (fun p => mi.1.length - p.1) (fun p => p.1 ≤ mi.1.length ∧ (mi.1.drop p.1).foldl (newW lim) (p.2.1, p.2.2.1) = nk ∧ (∀ k ∈ p.2.1, kyOk N ks.length k) ∧ keys.length ≤ p.2.1.length ∧ p.2.1.length ≤ p.2.2.1 ∧ p.2.2.1 ≤ 2 * lim + 9) (0, keys, mi.2, some cb, kcap) ⟨Nat.zero_le _, hnk, hko, Nat.le_refl _, by simp only; omega, by simp only; omega⟩ ⟨rfl, rfl, rfl, rfl, rfl, rfl, rfl, rfl, rfl, rfl, rfl, trivial⟩ rfl ?_
        clear hnk
        rintro ⟨k, keys2, c2, kb2, kcap2⟩ ⟨hkl, hnk, hko2, hkg, hkc2, hc2⟩
        simp only at hkl hnk hko2 hkg hkc2 hc2 ⊢
        by_cases hkl2 : k < mi.1.length
        · by_cases hcl2 : c2 ≤ lim
          · obtain ⟨w, hw⟩ : ∃ w, mi.1[k]? = some w := ⟨mi.1[k], List.getElem?_eq_getElem hkl2⟩
            obtain ⟨hw8, hwg⟩ := hmok w (List.mem_of_getElem? hw)
            have hww := encs_at (e := wyCC) (s := 2) (fun _ => rfl) (i := (k : Int).toNat) (by simpa using hw)
            have hdw : mi.1.drop k = w :: mi.1.drop (k + 1) := by
              rw [List.drop_eq_getElem_cons hkl2]
              rw [List.getElem?_eq_getElem hkl2] at hw
              rw [Option.some.inj hw]
            rw [hdw, List.foldl_cons, show newW lim (keys2, c2) w = w.2.foldl newS (keys2, c2) by unfold newW; rw [if_pos hcl2]] at hnk
            repeat' (first | refine aops_end ?_ | refine aops_pbt tok rfl (by first | omega | decide) rfl rfl rfl ?_ | refine aops_pet tok rfl (by omega) rfl rfl rfl ?_ | refine aops_p tok rfl rfl rfl rfl ?_ | refine acode_it rfl ?_ | refine acode_seq ?_ | refine acode_region ?_ | refine acode_block ?_ | refine acode_skip ?_ | refine then_n ?_)
            try any_goals (exfalso; omega)
            refine acode_loopS (ι := Nat × List Ky × Nat × Option Nat × Nat) (fun p => [(2, .int .i64 lim), (3, .pp (grC g)), (6, .ref fb 0), (9, .pp (chC g ks N ks.length F)), (11, .int .i64 ks.length), (12, .own p.2.2.2.1 p.2.1.length p.2.2.2.2), (13, .own ab all.length acap), (14, .int .i64 p.2.2.1), (15, .int .i64 i), (16, .psl mi.1.length (encs wyCC mi.1)), (19, .int .i64 k), (20, .int .i64 p.1)]) (fun p => ⟨ab, acap * 1, allW all⟩ :: ⟨p.2.2.2.1, p.2.2.2.2 * 3, encs f3C p.2.1⟩ :: ⟨some fb, 2, [.nils, .int .i64 0]⟩ :: M) (fun p => w.2.length - p.1) (fun p => p.1 ≤ w.2.length ∧ (w.2.drop p.1).foldl newS (p.2.1, p.2.2.1) = w.2.foldl newS (keys2, c2) ∧ (∀ k ∈ p.2.1, kyOk N ks.length k) ∧ keys.length ≤ p.2.1.length ∧ p.2.1.length ≤ p.2.2.1 ∧ p.2.2.1 ≤ lim + p.1) (0, keys2, c2, kb2, kcap2) ⟨Nat.zero_le _, rfl, hko2, hkg, hkc2, by simp only; omega⟩ ⟨rfl, rfl, rfl, rfl, rfl, rfl, rfl, rfl, rfl, rfl, rfl, rfl, trivial⟩ rfl ?_
            rintro ⟨j, keys3, c3, kb3, kcap3⟩ ⟨hj, hnk3, hko3, hkg3, hkc3, hc3⟩
            simp only at hj hnk3 hko3 hkg3 hkc3 hc3 ⊢
            repeat (first | refine aops_p tok rfl rfl rfl rfl ?_ | refine acode_seq ?_ | refine acode_region ?_)
            refine aops_ix tok (wyCC w) rfl rfl rfl rfl (by omega) (by omega) (by simp [wyCC, wyC]) hww rfl rfl rfl ?_
            repeat (first | refine aops_end ?_ | refine aops_p tok rfl rfl rfl rfl ?_)
            refine acode_id rfl (fun e2 => ?_) (fun e2 => ?_)
            · have hjl : j < w.2.length := by omega
              obtain ⟨y, hy⟩ : ∃ y, w.2[j]? = some y := ⟨w.2[j], List.getElem?_eq_getElem hjl⟩
              have hyg := hwg y (List.mem_of_getElem? hy)
              have hdy : w.2.drop j = y :: w.2.drop (j + 1) := by
                rw [List.drop_eq_getElem_cons hjl]
                rw [List.getElem?_eq_getElem hjl] at hy
                rw [Option.some.inj hy]
              rw [hdy, List.foldl_cons] at hnk3
              refine acode_somed 12 rfl (by omega) fun cb3 hcb3 => ?_
              subst hcb3
              repeat (first | refine aops_p tok rfl rfl rfl rfl ?_ | refine acode_seq ?_ | refine acode_region ?_ | refine acode_block ?_ | refine acode_skip ?_ | refine then_n ?_)
              refine aops_ix tok (wyCC w) rfl rfl rfl rfl (by omega) (by omega) (by simp [wyCC, wyC]) hww rfl rfl rfl ?_
              repeat (refine aops_p tok rfl rfl rfl rfl ?_)
              refine aops_ix tok (f3C y) rfl rfl rfl rfl (by omega) (by omega) (by simp [f3C]) (encs_at (e := f3C) (s := 3) (fun _ => rfl) (i := (j : Int).toNat) (by simpa using hy)) rfl rfl rfl ?_
              repeat (refine aops_p tok rfl rfl rfl rfl ?_)
              refine aops_alloc tok rfl rfl rfl rfl rfl rfl fun xb => ?_
              repeat (refine aops_stn tok rfl rfl rfl rfl rfl rfl rfl rfl rfl ?_)
              refine aops_pubref0 21 rfl ?_
              by_cases hy0 : 0 ≤ y.1
              · have hyk : kyOk N ks.length y := by
                  have h1 := hyg.1
                  have h2 := hyg.2 hy0
                  unfold kyOk; omega
                repeat' (first | refine aops_end ?_ | refine aops_pbt tok rfl (by first | omega | decide) rfl rfl rfl ?_ | refine aops_pet tok rfl (by omega) rfl rfl rfl ?_ | refine aops_p tok rfl rfl rfl rfl ?_ | refine acode_seq ?_ | refine acode_region ?_)
                try any_goals (exfalso; omega)
                refine aops_callx Try.func38 rfl rfl rfl rfl (acalls_view (.cons (.own (sz := 3) (.tail _ (.head _)) rfl (encs_len (e := f3C) (s := 3) (fun _ => rfl) keys3) (by decide) (VwL.rfl' _)) (.cons (.refl _) .nil)) (find_calls (by omega) []) rfl) rfl rfl rfl ?_
                by_cases hf : findF y keys3 0 < 0
                · rw [show newS (keys3, c3) y = (keys3 ++ [y], c3 + 1) by unfold newS; rw [if_pos ⟨hy0, hf⟩]] at hnk3
                  repeat' (first | refine aops_end ?_ | refine aops_pbt tok rfl (by first | omega | decide) rfl rfl rfl ?_ | refine aops_pet tok rfl (by omega) rfl rfl rfl ?_ | refine aops_p tok rfl rfl rfl rfl ?_ | refine acode_it rfl ?_ | refine acode_seq ?_ | refine acode_region ?_)
                  try any_goals (exfalso; omega)
                  refine aops_litn tok rfl rfl rfl rfl rfl rfl rfl ?_
                  refine aops_append tok 1 (m := 1) (ds := f3C y) rfl rfl rfl (.inl rfl) rfl rfl (encs_len (e := f3C) (s := 3) (fun _ => rfl) keys3) rfl rfl rfl (by show _ * 24 ≤ _; omega) (by omega) rfl rfl fun ob' cap' => ?_
                  repeat (first | refine aops_put rfl ?_ | refine aops_end ?_ | refine aops_endb ?_ | refine aops_a tok rfl (by omega) (by omega) rfl rfl rfl ?_ | refine aops_p tok rfl rfl rfl rfl ?_ | refine acode_region ?_ | refine then_n ?_)
                  refine ⟨(j + 1, keys3 ++ [y], c3 + 1, ob', cap'), ⟨by simp only; omega, hnk3, fun z hz => ?_, by simp only [List.length_append, List.length_singleton]; omega, by simp only [List.length_append, List.length_singleton]; omega, by simp only; omega⟩, by simp only; omega, ⟨rfl, rfl, rfl, rfl, rfl, by rw [List.length_append]; rfl, rfl, rfl, rfl, rfl, rfl, rfl, trivial⟩, by simp only [encs_app]; simp [encs]⟩
                  rcases List.mem_append.1 hz with h1 | h1
                  · exact hko3 z h1
                  · rw [List.mem_singleton.1 h1]; exact hyk
                · rw [show newS (keys3, c3) y = (keys3, c3) by unfold newS; rw [if_neg (fun h => hf h.2)]] at hnk3
                  repeat' (first | refine aops_end ?_ | refine aops_a tok rfl (by omega) (by omega) rfl rfl rfl ?_ | refine aops_pbf tok rfl (by first | omega | decide) rfl rfl rfl ?_ | refine aops_p tok rfl rfl rfl rfl ?_ | refine acode_if rfl ?_ | refine acode_region ?_ | refine acode_skip ?_ | refine then_n ?_ | refine block_n ?_)
                  try any_goals (exfalso; omega)
                  exact ⟨(j + 1, keys3, c3, some cb3, kcap3), ⟨by simp only; omega, hnk3, hko3, hkg3, hkc3, by simp only; omega⟩, by simp only; omega, ⟨rfl, rfl, rfl, rfl, rfl, rfl, rfl, rfl, rfl, rfl, rfl, rfl, trivial⟩, rfl⟩
              · rw [show newS (keys3, c3) y = (keys3, c3) by unfold newS; rw [if_neg (fun h => hy0 h.1)]] at hnk3
                repeat' (first | refine aops_end ?_ | refine aops_o rfl rfl rfl ?_ | refine aops_a tok rfl (by omega) (by omega) rfl rfl rfl ?_ | refine aops_pbf tok rfl (by first | omega | decide) rfl rfl rfl ?_ | refine aops_p tok rfl rfl rfl rfl ?_ | refine acode_if rfl ?_ | refine acode_seq ?_ | refine acode_region ?_ | refine acode_skip ?_ | refine then_n ?_ | refine block_n ?_)
                try any_goals (exfalso; omega)
                exact ⟨(j + 1, keys3, c3, some cb3, kcap3), ⟨by simp only; omega, hnk3, hko3, hkg3, hkc3, by simp only; omega⟩, by simp only; omega, ⟨rfl, rfl, rfl, rfl, rfl, rfl, rfl, rfl, rfl, rfl, rfl, rfl, trivial⟩, rfl⟩
            · obtain rfl : j = w.2.length := by omega
              rw [List.drop_length, List.foldl_nil] at hnk3
              rw [← hnk3] at hnk
              refine acode_exit ?_
              repeat (first | refine exit_then ?_ | refine exit_here ?_ | refine then_n ?_ | refine block_n ?_)
              repeat (first | refine aops_end ?_ | refine aops_a tok rfl (by omega) (by omega) rfl rfl rfl ?_ | refine aops_p tok rfl rfl rfl rfl ?_ | refine acode_region ?_)
              exact ⟨(k + 1, keys3, c3, kb3, kcap3), ⟨by simp only; omega, hnk, hko3, hkg3, hkc3, by simp only; omega⟩, by simp only; omega, ⟨rfl, rfl, rfl, rfl, rfl, rfl, rfl, rfl, rfl, rfl, rfl, trivial⟩, rfl⟩
          · have hfull : ∀ L : List Wy, L.foldl (newW lim) (keys2, c2) = (keys2, c2) := by
              intro L
              induction L with
              | nil => rfl
              | cons x L ih => rw [List.foldl_cons, show newW lim (keys2, c2) x = (keys2, c2) by unfold newW; rw [if_neg hcl2]]; exact ih
            rw [hfull] at hnk
            subst hnk
            repeat' (first | refine aops_end ?_ | refine aops_pbt tok rfl (by first | omega | decide) rfl rfl rfl ?_ | refine aops_pbf tok rfl (by first | omega | decide) rfl rfl rfl ?_ | refine aops_pet tok rfl (by omega) rfl rfl rfl ?_ | refine aops_p tok rfl rfl rfl rfl ?_ | refine acode_if rfl ?_ | refine acode_seq ?_ | refine acode_region ?_)
            try any_goals (exfalso; omega)
            refine acode_exit ?_
            repeat (first | refine exit_then ?_ | refine exit_here ?_ | refine then_n ?_)
            exact ⟨(kb2, kcap2), ⟨hko2, hkg, hkc2, hc2⟩, ⟨rfl, rfl, rfl, rfl, rfl, rfl, rfl, rfl, rfl, rfl, trivial⟩, rfl⟩
        · rw [List.drop_of_length_le (by omega), List.foldl_nil] at hnk
          subst hnk
          repeat' (first | refine aops_end ?_ | refine aops_o rfl rfl rfl ?_ | refine aops_pbf tok rfl (by first | omega | decide) rfl rfl rfl ?_ | refine aops_p tok rfl rfl rfl rfl ?_ | refine acode_if rfl ?_ | refine acode_seq ?_ | refine acode_region ?_)
          try any_goals (exfalso; omega)
          refine acode_exit ?_
          repeat (first | refine exit_then ?_ | refine exit_here ?_ | refine then_n ?_)
          exact ⟨(kb2, kcap2), ⟨hko2, hkg, hkc2, hc2⟩, ⟨rfl, rfl, rfl, rfl, rfl, rfl, rfl, rfl, rfl, rfl, trivial⟩, rfl⟩
      rintro ⟨kb2, kcap2⟩ ⟨hko2, hkg, hkc2, hc2⟩
      simp only at hko2 hkg hkc2 hc2 ⊢
      by_cases hov : nk.2 > lim
      · rw [if_pos hov] at hfin
        subst hfin
        simp only at hB
        repeat' (first | refine aops_end ?_ | refine aops_pbt tok rfl (by first | omega | decide) rfl rfl rfl ?_ | refine aops_p tok rfl rfl rfl rfl ?_ | refine acode_it rfl ?_ | refine acode_seq ?_ | refine acode_region ?_)
        try any_goals (exfalso; omega)
        refine aops_drop0 (aops_drop0 ?_)
        repeat (first | refine aops_end ?_ | refine aops_p tok rfl rfl rfl rfl ?_ | refine aops_stn tok rfl rfl rfl rfl rfl rfl rfl rfl rfl ?_)
        refine acode_freezeV (V := [⟨some fb, 2, [.nils, .int .i64 0]⟩]) [(6, .pp (foC ⟨[], 0⟩)), (7, .int .i64 0), (8, .int .i64 9)] ⟨.ref (.head _) (.cons .nils (.cons (.refl _) .nil)), .refl _, .refl _, trivial⟩ ?_
        refine acode_ret ?_
        repeat (first | refine ret_then ?_ | refine ret_block ?_)
        exact ⟨_, ⟨.inl ⟨0, 9, by omega, by rw [hB], rfl⟩, rfl⟩, _, rfl, resOf_pp tok rfl rfl rfl⟩
      · rw [if_neg hov] at hfin
        repeat' (first | refine aops_end ?_ | refine aops_pbf tok rfl (by first | omega | decide) rfl rfl rfl ?_ | refine aops_p tok rfl rfl rfl rfl ?_ | refine acode_if rfl ?_ | refine acode_seq ?_ | refine acode_region ?_ | refine acode_skip ?_ | refine then_n ?_)
        try any_goals (exfalso; omega)
        refine aops_litn tok rfl rfl rfl rfl rfl rfl rfl ?_
        refine aops_append tok 0 (m := 1) (ds := allW [mi.1]) rfl rfl rfl (.inl rfl) rfl rfl (by rw [allW_len, Nat.mul_one]) rfl rfl rfl (by show _ * 24 ≤ _; omega) (by omega) rfl rfl fun ab' acap' => ?_
        repeat (first | refine aops_put rfl ?_ | refine aops_end ?_ | refine aops_endb ?_ | refine aops_a tok rfl (by omega) (by omega) rfl rfl rfl ?_ | refine aops_p tok rfl rfl rfl rfl ?_ | refine acode_region ?_ | refine then_n ?_)
        refine ⟨(q', i + 1, nk.1, all ++ [mi.1], nk.2, (kb2, kcap2), (ab', acap')), ⟨hfin, by simp only; omega, by simp only; omega, by simp only [List.length_append, List.length_singleton]; omega, hkc2, by simp only; omega, hko2, by simp only; omega, fun z hz => ?_⟩, by simp only; omega, ⟨rfl, rfl, rfl, rfl, rfl, rfl, by rw [List.length_append]; rfl, rfl, rfl, trivial⟩, by simp [allW]⟩
        rcases List.mem_append.1 hz with h1 | h1
        · exact hall z h1
        · rw [List.mem_singleton.1 h1]; exact ⟨by omega, hmok⟩
    · have hie : i = keys.length := by omega
      rw [List.getElem?_eq_none (by omega)] at hfin
      simp only at hfin
      subst hfin
      simp only at hB
      refine acode_exit ?_
      repeat (first | refine exit_then ?_ | refine exit_here ?_ | refine then_n ?_)
      refine acode_pub0 13 1 rfl rfl (by rw [allW_len, Nat.mul_one]) rfl ?_
      refine acode_pub0 12 3 rfl rfl (encs_len (e := f3C) (s := 3) (fun _ => rfl) keys) rfl ?_
      repeat (first | refine aops_end ?_ | refine aops_p tok rfl rfl rfl rfl ?_ | refine acode_seq ?_ | refine acode_region ?_ | refine acode_block ?_)
      refine acode_freezeV (V := []) [(6, .ref fb 0), (11, .int .i64 ks.length), (12, .psl keys.length (encs f3C keys)), (13, .psl all.length (allW all)), (22, .psl 0 []), (23, .int .i64 0)] ⟨.refl _, .refl _, .refl _, .refl _, .nils, .refl _, trivial⟩ ?_
      have hkl : keys.length ≤ lim + 1 := by omega
      have hfo := bldF_ok (N := N) (n := ks.length) (lim := lim) hn hlim hkl hall
      have hbf : bldF keys all = ⟨(sortK aheadF keys).map (nodeN keys all (sortK aheadF keys)), findF (keys.getD 0 (0, 0, 0)) (sortK aheadF keys) 0⟩ := rfl
      have hom : ∀ z, z ∈ sortK aheadF keys → z ∈ keys := fun z hz => sortK_mem.1 hz
      have hord : keys.foldl (fun out x => insK aheadF x out) [] = sortK aheadF keys := rfl
      generalize sortK aheadF keys = order at *
      refine acode_loopS (ι := Nat × List Ky) (fun p => [(6, .ref fb 0), (11, .int .i64 ks.length), (12, .psl keys.length (encs f3C keys)), (13, .psl all.length (allW all)), (22, .psl p.2.length (encs f3C p.2)), (23, .int .i64 p.1)]) (fun _ => ⟨some fb, 2, [.nils, .int .i64 0]⟩ :: M) (fun p => keys.length - p.1) (fun p => p.1 ≤ keys.length ∧ p.2.length = p.1 ∧ (keys.drop p.1).foldl (fun out x => insK aheadF x out) p.2 = order) (0, []) ⟨Nat.zero_le _, rfl, hord⟩ ⟨rfl, rfl, rfl, rfl, rfl, rfl, trivial⟩ rfl ?_
      clear hord
      rintro ⟨i2, out⟩ ⟨hi2, hol, hfold⟩
      simp only at hi2 hol hfold ⊢
      repeat (first | refine aops_end ?_ | refine aops_p tok rfl rfl rfl rfl ?_ | refine acode_seq ?_ | refine acode_region ?_)
      refine acode_id rfl (fun e2 => ?_) (fun e2 => ?_)
      · have hil : i2 < keys.length := by omega
        obtain ⟨x, hx⟩ : ∃ x, keys[i2]? = some x := ⟨keys[i2], List.getElem?_eq_getElem hil⟩
        have hdx : keys.drop i2 = x :: keys.drop (i2 + 1) := by
          rw [List.drop_eq_getElem_cons hil]
          rw [List.getElem?_eq_getElem hil] at hx
          rw [Option.some.inj hx]
        rw [hdx, List.foldl_cons] at hfold
        have hil2 := insK_len aheadF x out
        repeat (first | refine acode_seq ?_ | refine acode_region ?_ | refine acode_block ?_ | refine acode_skip ?_ | refine then_n ?_ | refine block_n ?_)
        repeat (refine aops_p tok rfl rfl rfl rfl ?_)
        refine aops_end ?_
        refine acode_seq ?_
        refine acode_joinI (ι := Nat) (fun k => [(6, .ref fb 0), (11, .int .i64 ks.length), (12, .psl keys.length (encs f3C keys)), (13, .psl all.length (allW all)), (22, .psl out.length (encs f3C out)), (23, .int .i64 i2), (24, .int .i64 k)]) (fun _ => ⟨some fb, 2, [.nils, .int .i64 0]⟩ :: M) (fun k => k ≤ out.length ∧ insK aheadF x out = out.take k ++ x :: out.drop k) ?_ ?_
        · repeat (refine acode_block ?_)
          refine acode_loopS (ι := Nat) (fun k => [(6, .ref fb 0), (11, .int .i64 ks.length), (12, .psl keys.length (encs f3C keys)), (13, .psl all.length (allW all)), (22, .psl out.length (encs f3C out)), (23, .int .i64 i2), (24, .int .i64 k)]) (fun _ => ⟨some fb, 2, [.nils, .int .i64 0]⟩ :: M) (fun k => out.length - k) (fun k => k ≤ out.length ∧ insK aheadF x out = out.take k ++ insK aheadF x (out.drop k)) 0 ⟨Nat.zero_le _, by simp⟩ ⟨rfl, rfl, rfl, rfl, rfl, rfl, rfl, trivial⟩ rfl ?_
          rintro k ⟨hk1, hk2⟩
          by_cases hkl3 : k < out.length
          · obtain ⟨y, hy⟩ : ∃ y, out[k]? = some y := ⟨out[k], List.getElem?_eq_getElem hkl3⟩
            have hdy : out.drop k = y :: out.drop (k + 1) := by
              rw [List.drop_eq_getElem_cons hkl3]
              rw [List.getElem?_eq_getElem hkl3] at hy
              rw [Option.some.inj hy]
            rw [hdy, insK] at hk2
            repeat (refine acode_seq ?_)
            refine acode_drawT 15 mixed (by kernel_rfl) (by kernel_rfl) ?_
            repeat' (first | refine seqT_o rfl rfl rfl ?_ | (refine seqT_pd tok rfl rfl rfl rfl ?_ ?_ <;> intro e_) | refine seqT_p tok rfl rfl rfl rfl ?_)
            try any_goals (exfalso; omega)
            refine seqT_ix tok (f3C y) rfl rfl rfl rfl (by omega) (by omega) (by simp [f3C]) (encs_at (e := f3C) (s := 3) (fun _ => rfl) (i := (k : Int).toNat) (by simpa using hy)) rfl rfl rfl ?_
            repeat (refine seqT_p tok rfl rfl rfl rfl ?_)
            refine seqT_ix tok (f3C x) rfl rfl rfl rfl (by omega) (by omega) (by simp [f3C]) (encs_at (e := f3C) (s := 3) (fun _ => rfl) (i := (i2 : Int).toNat) (by simpa using hx)) rfl rfl rfl ?_
            repeat (refine seqT_p tok rfl rfl rfl rfl ?_)
            refine seqT_call _ Try.func39 rfl rfl rfl rfl (ahead_calls (a := y) (b := x) _) rfl rfl rfl ?_
            repeat (refine seqT_p tok rfl rfl rfl rfl ?_)
            refine SeqT.done ?_
            cases hlo : aheadF y x with
            | true =>
              rw [hlo, if_pos rfl] at hk2
              repeat' (first | refine aops_end ?_ | refine aops_endb ?_ | refine aops_a tok rfl (by omega) (by omega) rfl rfl rfl ?_ | refine aops_p tok rfl rfl rfl rfl ?_ | refine acode_it rfl ?_ | refine acode_region ?_ | refine acode_block ?_ | refine acode_skip ?_ | refine then_n ?_)
              exact ⟨k + 1, ⟨by omega, by rw [hk2, List.take_add_one, hy]; simp⟩, by omega, ⟨rfl, rfl, rfl, rfl, rfl, rfl, rfl, trivial⟩, rfl⟩
            | false =>
              rw [hlo, if_neg (by simp)] at hk2
              repeat' (first | refine aops_end ?_ | refine acode_if rfl ?_)
              refine acode_exit ?_
              repeat (first | refine exit_then ?_ | refine exit_here ?_ | refine then_n ?_)
              exact ⟨k, ⟨hk1, by rw [hk2, hdy]⟩, ⟨rfl, rfl, rfl, rfl, rfl, rfl, rfl, trivial⟩, rfl⟩
          · rw [List.drop_of_length_le (show out.length ≤ k by omega), insK] at hk2
            repeat (refine acode_seq ?_)
            refine acode_drawT 15 mixed (by kernel_rfl) (by kernel_rfl) ?_
            repeat' (first | refine seqT_o rfl rfl rfl ?_ | (refine seqT_pd tok rfl rfl rfl rfl ?_ ?_ <;> intro e_) | refine seqT_p tok rfl rfl rfl rfl ?_)
            try any_goals (exfalso; omega)
            refine SeqT.done ?_
            repeat' (first | refine aops_end ?_ | refine acode_if rfl ?_)
            refine acode_exit ?_
            repeat (first | refine exit_then ?_ | refine exit_here ?_ | refine then_n ?_)
            exact ⟨k, ⟨hk1, by rw [hk2, List.drop_of_length_le (by omega)]⟩, ⟨rfl, rfl, rfl, rfl, rfl, rfl, rfl, trivial⟩, rfl⟩
        rintro k ⟨hk1, hk2⟩
        rw [hk2] at hfold hil2
        skip
        refine acode_drawP [] 14 [0, 1, 2, 4, 5, 6, 7, 8, 10, 11, 12, 3, 9, 13] [11, 12, 13] mixed (by kernel_rfl) (by kernel_rfl) rfl ?_
        repeat (refine seqO_p tok rfl rfl rfl rfl rfl ?_)
        refine seqO_slc tok (out.take k).length (encs f3C (out.take k)) rfl rfl rfl rfl rfl rfl (by omega) (by omega) (by omega) (by rw [List.length_take, Nat.min_eq_left hk1]; omega) (encs_len (e := f3C) (s := 3) (fun _ => rfl) out) (encs_cut (e := f3C) (s := 3) (fun _ => rfl) out k) rfl rfl rfl ?_
        repeat (refine seqO_p tok rfl rfl rfl rfl rfl ?_)
        refine seqO_ix tok (f3C x) rfl rfl rfl rfl rfl (by omega) (by omega) (by simp [f3C]) (encs_at (e := f3C) (s := 3) (fun _ => rfl) (i := (i2 : Int).toNat) (by simpa using hx)) rfl rfl rfl ?_
        repeat (refine seqO_p tok rfl rfl rfl rfl rfl ?_)
        refine seqO_lit tok rfl rfl rfl rfl rfl rfl rfl rfl rfl ?_
        repeat (refine seqO_p tok rfl rfl rfl rfl rfl ?_)
        refine seqO_slc tok (out.drop k).length (encs f3C (out.drop k)) rfl rfl rfl rfl rfl rfl (by omega) (by omega) (by omega) (by rw [List.length_drop]; omega) (encs_len (e := f3C) (s := 3) (fun _ => rfl) out) (encs_rest (e := f3C) (s := 3) (fun _ => rfl) out k (by omega)) rfl rfl rfl ?_
        refine seqO_appn tok rfl rfl rfl rfl rfl (encs_len (e := f3C) (s := 3) (fun _ => rfl) _) (encs_cell (fun _ => rfl) _) rfl (by show _ * 24 ≤ _; rw [List.length_take]; omega) (by rw [List.length_take]; omega) (by simp) rfl rfl rfl fun ob' cap' => ?_
        refine seqO_app tok 0 (m := 1) (ds := f3C x) rfl rfl rfl rfl (.inl rfl) rfl rfl (encs_len (e := f3C) (s := 3) (fun _ => rfl) _) rfl rfl rfl (by show _ * 24 ≤ _; rw [List.length_take]; omega) (by rw [List.length_take]; omega) (by simp) rfl rfl rfl fun ob2 cap2 => ?_
        refine seqO_appz tok 0 (m := (out.drop k).length) (ds := encs f3C (out.drop k)) rfl rfl rfl rfl rfl rfl rfl (by rw [List.length_append, encs_len (e := f3C) (s := 3) (fun _ => rfl)]; show _ = _ * 3; rw [Nat.add_mul]; rfl) (encs_len (e := f3C) (s := 3) (fun _ => rfl) _) (encs_cell (fun _ => rfl) _) rfl (by show _ * 24 ≤ _; rw [List.length_take, List.length_drop]; omega) (by rw [List.length_take, List.length_drop]; omega) (by simp) rfl rfl rfl ?_
        refine SeqO.done ?_
        repeat (first | refine aops_end ?_ | refine aops_endb ?_ | refine aops_a tok rfl (by omega) (by omega) rfl rfl rfl ?_ | refine aops_p tok rfl rfl rfl rfl ?_ | refine acode_region ?_ | refine then_n ?_)
        refine ⟨(i2 + 1, out.take k ++ x :: out.drop k), ⟨by simp only; omega, by simp only [hil2]; omega, hfold⟩, by simp only; omega, ⟨rfl, rfl, rfl, rfl, ?_, rfl, trivial⟩, rfl⟩
        show A.psl _ _ = A.psl _ _
        rw [encs_app]
        congr 1
        · simp; omega
        · simp [encs]
      · obtain rfl : i2 = keys.length := by omega
        rw [List.drop_length, List.foldl_nil] at hfold
        subst hfold
        refine acode_exit ?_
        repeat (first | refine exit_then ?_ | refine exit_here ?_ | refine then_n ?_)
        obtain ⟨k0, hk0⟩ : ∃ k0, keys[0]? = some k0 := ⟨keys[0], List.getElem?_eq_getElem hk1⟩
        have hk00 : keys.getD 0 (0, 0, 0) = k0 := by rw [List.getD_eq_getElem?_getD, hk0]; rfl
        rw [hk00] at hbf
        repeat (first | refine aops_p tok rfl rfl rfl rfl ?_ | refine acode_seq ?_ | refine acode_region ?_)
        refine aops_ix tok (f3C k0) rfl rfl rfl rfl (by omega) (by omega) (by simp [f3C]) (encs_at (e := f3C) (s := 3) (fun _ => rfl) (i := (0 : Int).toNat) (by simpa using hk0)) rfl rfl rfl ?_
        repeat (refine aops_p tok rfl rfl rfl rfl ?_)
        refine aops_callx Try.func38 rfl rfl rfl rfl (find_calls (by omega) _) rfl rfl rfl ?_
        generalize findF k0 out 0 = root at *
        repeat (refine aops_p tok rfl rfl rfl rfl ?_)
        refine aops_alloc tok rfl rfl rfl rfl rfl rfl fun gb => ?_
        repeat (refine aops_stn tok rfl rfl rfl rfl rfl rfl rfl rfl rfl ?_)
        refine aops_adoptF 0 rfl rfl ?_
        repeat (first | refine aops_end ?_ | refine aops_p tok rfl rfl rfl rfl ?_ | refine acode_seq ?_ | refine acode_region ?_ | refine acode_block ?_)
        generalize hnds : out.map (nodeN keys all out) = nds at hbf
        have hndl : nds.length = out.length := by rw [← hnds, List.length_map]
        refine acode_loopS (ι := Nat × Option Nat × Nat) (fun p => [(6, .ref fb 0), (11, .int .i64 ks.length), (12, .psl keys.length (encs f3C keys)), (13, .psl all.length (allW all)), (22, .psl out.length (encs f3C out)), (25, .ref gb 0), (26, .int .i64 p.1)]) (fun p => ⟨some gb, 2, [.own p.2.1 p.1 p.2.2, .int .i64 root]⟩ :: ⟨p.2.1, p.2.2 * 4, encs ndC (nds.take p.1)⟩ :: ⟨some fb, 2, [.nils, .int .i64 0]⟩ :: M) (fun p => out.length - p.1) (fun p => p.1 ≤ out.length) (0, none, 0) (Nat.zero_le _) ⟨rfl, rfl, rfl, rfl, rfl, rfl, rfl, trivial⟩ rfl ?_
        rintro ⟨i, nob, ncap⟩ hi
        simp only at hi ⊢
        repeat (first | refine aops_end ?_ | refine aops_p tok rfl rfl rfl rfl ?_ | refine acode_seq ?_ | refine acode_region ?_)
        refine acode_id rfl (fun e3 => ?_) (fun e3 => ?_)
        · have hil : i < out.length := by omega
          obtain ⟨k, hk⟩ : ∃ k, out[i]? = some k := ⟨out[i], List.getElem?_eq_getElem hil⟩
          have hka := encs_at (e := f3C) (s := 3) (fun _ => rfl) (i := (i : Int).toNat) (by simpa using hk)
          have hkm := hom k (List.mem_of_getElem? hk)
          obtain ⟨hf1, hf2, hf3⟩ := findF_at hkm
          obtain ⟨m, hm⟩ : ∃ m, all[(findF k keys 0).toNat]? = some m := ⟨all[(findF k keys 0).toNat]'(by omega), List.getElem?_eq_getElem (by omega)⟩
          obtain ⟨hm1, hm2⟩ := hall m (List.mem_of_getElem? hm)
          have hnd : nodeN keys all out k = ⟨k.1, k.2.1, k.2.2, sortK lowF (m.map (altN out))⟩ := by
            unfold nodeN; rw [List.getD_eq_getElem?_getD, hm]; rfl
          have hndi : nds[i]? = some ⟨k.1, k.2.1, k.2.2, sortK lowF (m.map (altN out))⟩ := by rw [← hnds, List.getElem?_map, hk, ← hnd]; rfl
          have htk : nds.take (i + 1) = nds.take i ++ [⟨k.1, k.2.1, k.2.2, sortK lowF (m.map (altN out))⟩] := by rw [List.take_add_one, hndi]; rfl
          have hma : [A.psl m.length (encs wyCC m)] <+: (allW all).drop ((findF k keys 0).toNat * 1) := by
            rw [Nat.mul_one]
            have : (allW all)[(findF k keys 0).toNat]? = some (A.psl m.length (encs wyCC m)) := by unfold allW; rw [List.getElem?_map, hm]; rfl
            rw [List.drop_eq_getElem_cons (List.getElem?_eq_some_iff.1 this).1, (List.getElem?_eq_some_iff.1 this).2]; exact ⟨_, rfl⟩
          repeat (first | refine acode_seq ?_ | refine acode_region ?_ | refine acode_block ?_ | refine acode_skip ?_ | refine then_n ?_ | refine block_n ?_)
          refine acode_drawP [] 17 [0, 1, 2, 3, 4, 5, 6, 7, 8, 9, 10, 11, 12, 13, 14, 15, 16] [16] mixed (by kernel_rfl) (by kernel_rfl) rfl ?_
          repeat (refine seqO_p tok rfl rfl rfl rfl rfl ?_)
          refine seqO_ix tok (f3C k) rfl rfl rfl rfl rfl (by omega) (by omega) (by simp [f3C]) hka rfl rfl rfl ?_
          repeat (refine seqO_p tok rfl rfl rfl rfl rfl ?_)
          refine seqO_ix tok (f3C k) rfl rfl rfl rfl rfl (by omega) (by omega) (by simp [f3C]) hka rfl rfl rfl ?_
          repeat (refine seqO_p tok rfl rfl rfl rfl rfl ?_)
          refine seqO_ix tok (f3C k) rfl rfl rfl rfl rfl (by omega) (by omega) (by simp [f3C]) hka rfl rfl rfl ?_
          repeat (refine seqO_p tok rfl rfl rfl rfl rfl ?_)
          refine seqO_alloc tok rfl rfl rfl (by simp) rfl rfl rfl rfl fun nb => ?_
          refine SeqO.done ?_
          repeat (refine aops_stn tok rfl rfl rfl rfl rfl rfl rfl rfl rfl ?_)
          refine aops_adoptF 3 rfl rfl ?_
          repeat (first | refine aops_end ?_ | refine aops_p tok rfl rfl rfl rfl ?_ | refine acode_seq ?_ | refine acode_region ?_)
          refine aops_ix tok (f3C k) rfl rfl rfl rfl (by omega) (by omega) (by simp [f3C]) hka rfl rfl rfl ?_
          repeat (refine aops_p tok rfl rfl rfl rfl ?_)
          refine aops_callx Try.func38 rfl rfl rfl rfl (find_calls (by omega) _) rfl rfl rfl ?_
          skip
          refine aops_ix tok [A.psl m.length (encs wyCC m)] rfl rfl rfl rfl hf2 (by omega) (by simp) hma rfl rfl rfl ?_
          repeat (first | refine aops_end ?_ | refine aops_p tok rfl rfl rfl rfl ?_ | refine acode_seq ?_ | refine acode_region ?_ | refine acode_block ?_)
          generalize hals : m.map (altN out) = als at *
          have halsl : als.length = m.length := by rw [← hals, List.length_map]
          have hsc := fun M => sorted_calls (l := als) (by omega) (fun a ha => by
            rw [← hals] at ha
            obtain ⟨w, hw, rfl⟩ := List.mem_map.1 ha
            have := (hm2 w hw).1
            show (w.2.map (kidN out)).length ≤ _
            rw [List.length_map]; omega) M
          rw [halsl] at hsc
          refine acode_loopS (ι := Nat × Option Nat × Nat) (fun p => [(6, .ref fb 0), (11, .int .i64 ks.length), (12, .psl keys.length (encs f3C keys)), (13, .psl all.length (allW all)), (22, .psl out.length (encs f3C out)), (25, .ref gb 0), (26, .int .i64 i), (27, .ref nb 0), (28, .psl m.length (encs wyCC m)), (29, .int .i64 p.1)]) (fun p => ⟨some nb, 4, [.int .i64 k.1, .int .i64 k.2.1, .int .i64 k.2.2, .own p.2.1 p.1 p.2.2]⟩ :: ⟨p.2.1, p.2.2 * 2, encs alC (als.take p.1)⟩ :: ⟨some gb, 2, [.own nob i ncap, .int .i64 root]⟩ :: ⟨nob, ncap * 4, encs ndC (nds.take i)⟩ :: ⟨some fb, 2, [.nils, .int .i64 0]⟩ :: M) (fun p => m.length - p.1) (fun p => p.1 ≤ m.length) (0, none, 0) (Nat.zero_le _) ⟨rfl, rfl, rfl, rfl, rfl, rfl, rfl, rfl, rfl, rfl, trivial⟩ rfl ?_
          rintro ⟨k2, aob, acap2⟩ hk2
          simp only at hk2 ⊢
          repeat (first | refine aops_end ?_ | refine aops_p tok rfl rfl rfl rfl ?_ | refine acode_seq ?_ | refine acode_region ?_)
          refine acode_id rfl (fun e4 => ?_) (fun e4 => ?_)
          · have hkl2 : k2 < m.length := by omega
            obtain ⟨w, hw⟩ : ∃ w, m[k2]? = some w := ⟨m[k2], List.getElem?_eq_getElem hkl2⟩
            obtain ⟨hw8, hwg⟩ := hm2 w (List.mem_of_getElem? hw)
            have hww := encs_at (e := wyCC) (s := 2) (fun _ => rfl) (i := (k2 : Int).toNat) (by simpa using hw)
            have hali : als[k2]? = some (altN out w) := by rw [← hals, List.getElem?_map, hw]; rfl
            have htk2 : als.take (k2 + 1) = als.take k2 ++ [altN out w] := by rw [List.take_add_one, hali]; rfl
            have halw : alC (altN out w) = [.int .i64 w.1, .psl (w.2.map (kidN out)).length (ints (w.2.map (kidN out)))] := rfl
            repeat (first | refine aops_p tok rfl rfl rfl rfl ?_ | refine acode_seq ?_ | refine acode_region ?_ | refine acode_block ?_ | refine acode_skip ?_ | refine then_n ?_)
            refine aops_ix tok (wyCC w) rfl rfl rfl rfl (by omega) (by omega) (by simp [wyCC, wyC]) hww rfl rfl rfl ?_
            repeat (refine aops_p tok rfl rfl rfl rfl ?_)
            refine aops_alloc tok rfl rfl rfl rfl rfl rfl fun lb => ?_
            repeat (refine aops_stn tok rfl rfl rfl rfl rfl rfl rfl rfl rfl ?_)
            refine aops_adoptF 1 rfl rfl ?_
            repeat (first | refine aops_end ?_ | refine aops_p tok rfl rfl rfl rfl ?_ | refine acode_seq ?_ | refine acode_region ?_ | refine acode_block ?_)
            generalize hkds : w.2.map (kidN out) = kds at halw
            have hkdl : kds.length = w.2.length := by rw [← hkds, List.length_map]
            rw [hkdl] at halw
            refine acode_loopS (ι := Nat × Option Nat × Nat) (fun p => [(6, .ref fb 0), (11, .int .i64 ks.length), (12, .psl keys.length (encs f3C keys)), (13, .psl all.length (allW all)), (22, .psl out.length (encs f3C out)), (25, .ref gb 0), (26, .int .i64 i), (27, .ref nb 0), (28, .psl m.length (encs wyCC m)), (29, .int .i64 k2), (30, .ref lb 0), (31, .int .i64 p.1)]) (fun p => ⟨some lb, 2, [.int .i64 w.1, .own p.2.1 p.1 p.2.2]⟩ :: ⟨p.2.1, p.2.2 * 1, ints (kds.take p.1)⟩ :: ⟨some nb, 4, [.int .i64 k.1, .int .i64 k.2.1, .int .i64 k.2.2, .own aob k2 acap2]⟩ :: ⟨aob, acap2 * 2, encs alC (als.take k2)⟩ :: ⟨some gb, 2, [.own nob i ncap, .int .i64 root]⟩ :: ⟨nob, ncap * 4, encs ndC (nds.take i)⟩ :: ⟨some fb, 2, [.nils, .int .i64 0]⟩ :: M) (fun p => w.2.length - p.1) (fun p => p.1 ≤ w.2.length) (0, none, 0) (Nat.zero_le _) ⟨rfl, rfl, rfl, rfl, rfl, rfl, rfl, rfl, rfl, rfl, rfl, rfl, trivial⟩ rfl ?_
            rintro ⟨j, kob, kcap2⟩ hj
            simp only at hj ⊢
            repeat (first | refine aops_p tok rfl rfl rfl rfl ?_ | refine acode_seq ?_ | refine acode_region ?_)
            refine aops_ix tok (wyCC w) rfl rfl rfl rfl (by omega) (by omega) (by simp [wyCC, wyC]) hww rfl rfl rfl ?_
            repeat (first | refine aops_end ?_ | refine aops_p tok rfl rfl rfl rfl ?_)
            refine acode_id rfl (fun e5 => ?_) (fun e5 => ?_)
            · have hjl : j < w.2.length := by omega
              obtain ⟨y, hy⟩ : ∃ y, w.2[j]? = some y := ⟨w.2[j], List.getElem?_eq_getElem hjl⟩
              have hyg := hwg y (List.mem_of_getElem? hy)
              have hkdi : kds[j]? = some (kidN out y) := by rw [← hkds, List.getElem?_map, hy]; rfl
              have htk3 : kds.take (j + 1) = kds.take j ++ [kidN out y] := by rw [List.take_add_one, hkdi]; rfl
              repeat (first | refine aops_p tok rfl rfl rfl rfl ?_ | refine acode_seq ?_ | refine acode_region ?_ | refine acode_block ?_ | refine acode_skip ?_ | refine then_n ?_)
              refine aops_ix tok (wyCC w) rfl rfl rfl rfl (by omega) (by omega) (by simp [wyCC, wyC]) hww rfl rfl rfl ?_
              repeat (refine aops_p tok rfl rfl rfl rfl ?_)
              refine aops_ix tok (f3C y) rfl rfl rfl rfl (by omega) (by omega) (by simp [f3C]) (encs_at (e := f3C) (s := 3) (fun _ => rfl) (i := (j : Int).toNat) (by simpa using hy)) rfl rfl rfl ?_
              repeat (refine aops_p tok rfl rfl rfl rfl ?_)
              refine aops_alloc tok rfl rfl rfl rfl rfl rfl fun xb => ?_
              repeat (refine aops_stn tok rfl rfl rfl rfl rfl rfl rfl rfl rfl ?_)
              refine aops_pubref0 32 rfl ?_
              by_cases hy0 : y.1 < 0
              · have hkid : kidN out y = -1 - y.2.1 := by unfold kidN; rw [if_pos hy0]
                have hyg1 := hyg.1
                repeat' (first | refine aops_end ?_ | refine aops_a tok rfl (by omega) (by omega) rfl rfl rfl ?_ | refine aops_pbt tok rfl (by first | omega | decide) rfl rfl rfl ?_ | refine aops_p tok rfl rfl rfl rfl ?_ | refine acode_it rfl ?_ | refine aops_ld tok 0 rfl rfl rfl rfl rfl rfl rfl rfl ?_ | refine acode_seq ?_ | refine acode_region ?_)
                try any_goals (exfalso; omega)
                refine aops_litn tok rfl rfl rfl rfl rfl rfl rfl ?_
                refine aops_append tok 1 (m := 1) (ds := ints [-1 - y.2.1]) rfl rfl rfl (.inl rfl) rfl rfl (by rw [ints_len, List.length_take, hkdl, Nat.min_eq_left (by omega)]; exact (Nat.mul_one _).symm) rfl rfl rfl (by show _ * 8 ≤ _; omega) (by omega) rfl rfl fun ob' cap' => ?_
                refine aops_put rfl ?_
                refine aops_somed 284 rfl (by omega) fun c hc => ?_
                subst hc
                repeat (first | refine aops_end ?_ | refine aops_endb ?_ | refine aops_a tok rfl (by omega) (by omega) rfl rfl rfl ?_ | refine aops_p tok rfl rfl rfl rfl ?_ | refine aops_stn tok rfl rfl rfl rfl rfl rfl rfl rfl rfl ?_ | refine acode_region ?_ | refine then_n ?_)
                refine ⟨(j + 1, some c, cap'), by simp only; omega, by simp only; omega, ⟨rfl, rfl, rfl, rfl, rfl, rfl, rfl, rfl, rfl, rfl, rfl, rfl, trivial⟩, ?_⟩
                simp only [htk3, hkid, ints_app]
                rfl
              · have hkid : kidN out y = findF y out 0 := by unfold kidN; rw [if_neg hy0]
                repeat' (first | refine aops_end ?_ | refine aops_pbf tok rfl (by first | omega | decide) rfl rfl rfl ?_ | refine aops_p tok rfl rfl rfl rfl ?_ | refine acode_if rfl ?_ | refine acode_seq ?_ | refine acode_region ?_)
                try any_goals (exfalso; omega)
                refine acode_drawP [⟨some lb, 2, [.int .i64 w.1, .own kob j kcap2]⟩] 8 [0, 1, 2, 3, 4, 5, 6, 7] [6] mixed (by kernel_rfl) (by kernel_rfl) rfl ?_
                repeat (first | refine seqO_p tok rfl rfl rfl rfl rfl ?_ | refine seqO_ld tok 0 rfl rfl rfl rfl rfl (by simp) rfl rfl rfl rfl ?_)
                refine seqO_call _ rfl Try.func38 rfl rfl rfl rfl (fun M => find_calls (by omega) M) rfl rfl rfl ?_
                refine seqO_lit tok rfl rfl rfl rfl rfl rfl rfl rfl rfl ?_
                refine seqO_app tok 1 (m := 1) (ds := ints [findF y out 0]) rfl rfl rfl rfl (.inl rfl) rfl rfl (by rw [ints_len, List.length_take, hkdl, Nat.min_eq_left (by omega)]; exact (Nat.mul_one _).symm) rfl rfl rfl (by show _ * 8 ≤ _; omega) (by omega) (by intro y o ho; simp at ho ⊢; simp [ho]) rfl rfl rfl fun ob' cap' => ?_
                repeat (refine seqO_p tok rfl rfl rfl rfl rfl ?_)
                refine SeqO.done ?_
                refine aops_somed 292 rfl (by omega) fun c hc => ?_
                subst hc
                refine aops_stk tok 0 [.int .i64 w.1, .own (some c) (j + 1) cap'] _ rfl rfl rfl rfl rfl rfl (show 1 + 1 ≤ 2 from by decide) rfl rfl rfl rfl ?_
                repeat (first | refine aops_end ?_ | refine aops_endb ?_ | refine aops_a tok rfl (by omega) (by omega) rfl rfl rfl ?_ | refine aops_p tok rfl rfl rfl rfl ?_ | refine acode_region ?_ | refine then_n ?_)
                refine ⟨(j + 1, some c, cap'), by simp only; omega, by simp only; omega, ⟨rfl, rfl, rfl, rfl, rfl, rfl, rfl, rfl, rfl, rfl, rfl, rfl, trivial⟩, ?_⟩
                simp only [htk3, hkid, ints_app]
                rfl
            · obtain rfl : j = w.2.length := by omega
              rw [List.take_of_length_le (show kds.length ≤ w.2.length by omega)]
              refine acode_exit ?_
              repeat (first | refine exit_then ?_ | refine exit_here ?_ | refine then_n ?_)
              refine acode_pubFld (sz := 1) 1 rfl rfl (by rw [ints_len, hkdl, Nat.mul_one]) (by decide) rfl ?_
              refine acode_pubref0 30 rfl ?_
              repeat (first | refine aops_p tok rfl rfl rfl rfl ?_ | refine aops_ld tok 0 rfl rfl rfl rfl rfl rfl rfl rfl ?_ | refine acode_region ?_)
              refine aops_litn tok rfl rfl rfl rfl rfl rfl rfl ?_
              refine aops_append tok 1 (m := 1) (ds := [.int .i64 w.1, .psl w.2.length (ints kds)]) rfl rfl rfl (.inl rfl) rfl rfl (by rw [encs_len alK_len, List.length_take, halsl, Nat.min_eq_left (by omega)]) rfl rfl rfl (by show _ * 32 ≤ _; omega) (by omega) rfl rfl fun ob' cap' => ?_
              refine aops_put rfl ?_
              refine aops_somed 298 rfl (by omega) fun c hc => ?_
              subst hc
              repeat (first | refine aops_end ?_ | refine aops_endb ?_ | refine aops_a tok rfl (by omega) (by omega) rfl rfl rfl ?_ | refine aops_p tok rfl rfl rfl rfl ?_ | refine aops_stn tok rfl rfl rfl rfl rfl rfl rfl rfl rfl ?_ | refine acode_region ?_ | refine then_n ?_)
              refine ⟨(k2 + 1, some c, cap'), by simp only; omega, by simp only; omega, ⟨rfl, rfl, rfl, rfl, rfl, rfl, rfl, rfl, rfl, rfl, trivial⟩, ?_⟩
              simp only [htk2, encs_app]
              rw [show encs alC [altN out w] = alC (altN out w) by simp [encs], halw]
              rfl
          · obtain rfl : k2 = m.length := by omega
            rw [List.take_of_length_le (show als.length ≤ m.length by omega)]
            refine acode_exit ?_
            repeat (first | refine exit_then ?_ | refine exit_here ?_ | refine then_n ?_)
            refine acode_pubFld (sz := 2) 3 rfl rfl (by rw [encs_len alK_len, halsl]) (by decide) rfl ?_
            repeat (first | refine aops_p tok rfl rfl rfl rfl ?_ | refine aops_ld tok 0 rfl rfl rfl rfl rfl rfl rfl rfl ?_ | refine acode_seq ?_ | refine acode_region ?_)
            refine aops_callx Try.func40 rfl rfl rfl rfl (hsc _) rfl rfl rfl ?_
            generalize sortK lowF als = sal at *
            repeat (first | refine aops_p tok rfl rfl rfl rfl ?_ | refine aops_stn tok rfl rfl rfl rfl rfl rfl rfl rfl rfl ?_)
            try (refine aops_stk tok 0 [.int .i64 k.1, .int .i64 k.2.1, .int .i64 k.2.2, .psl sal.length (encs alC sal)] _ rfl rfl rfl rfl rfl rfl (show 3 + 1 ≤ 4 from by decide) rfl rfl rfl rfl ?_)
            refine aops_end ?_
            refine acode_pubref0 27 rfl ?_
            repeat (first | refine aops_p tok rfl rfl rfl rfl ?_ | refine aops_ld tok 0 rfl rfl rfl rfl rfl rfl rfl rfl ?_ | refine acode_region ?_)
            refine aops_litn tok rfl rfl rfl rfl rfl rfl rfl ?_
            refine aops_append tok 1 (m := 1) (ds := ndC ⟨k.1, k.2.1, k.2.2, sal⟩) rfl rfl rfl (.inl rfl) rfl rfl (by rw [encs_len ndK_len, List.length_take, hndl, Nat.min_eq_left (by omega)]) rfl rfl rfl (by show _ * 48 ≤ _; omega) (by omega) rfl rfl fun ob' cap' => ?_
            refine aops_put rfl ?_
            refine aops_somed 308 rfl (by omega) fun c hc => ?_
            subst hc
            repeat (first | refine aops_end ?_ | refine aops_endb ?_ | refine aops_a tok rfl (by omega) (by omega) rfl rfl rfl ?_ | refine aops_p tok rfl rfl rfl rfl ?_ | refine aops_stn tok rfl rfl rfl rfl rfl rfl rfl rfl rfl ?_ | refine acode_region ?_ | refine then_n ?_)
            refine ⟨(i + 1, some c, cap'), by simp only; omega, by simp only; omega, ⟨rfl, rfl, rfl, rfl, rfl, rfl, rfl, trivial⟩, ?_⟩
            simp only [htk, encs_app]
            rw [show encs ndC [⟨k.1, k.2.1, k.2.2, sal⟩] = ndC ⟨k.1, k.2.1, k.2.2, sal⟩ by simp [encs]]
            rfl
        · obtain rfl : i = out.length := by omega
          have htk : nds.take out.length = nds := List.take_of_length_le (by omega)
          rw [htk]
          refine acode_exit ?_
          repeat (first | refine exit_then ?_ | refine exit_here ?_ | refine then_n ?_)
          refine acode_pubFld (sz := 4) 0 rfl rfl (by rw [encs_len ndK_len, hndl]) (by decide) rfl ?_
          refine acode_pubref0 25 rfl ?_
          repeat (first | refine aops_end ?_ | refine aops_p tok rfl rfl rfl rfl ?_ | refine aops_stn tok rfl rfl rfl rfl rfl rfl rfl rfl rfl ?_ | refine acode_seq ?_ | refine acode_region ?_)
          refine acode_pubref0 6 rfl ?_
          refine acode_ret ?_
          skip
          exact ⟨_, ⟨.inr ⟨bldF keys all, by rw [hB], hfo.1, hfo.2, rfl⟩, rfl⟩, _, rfl, resOf_pp tok rfl rfl (by rw [hbf, ← hndl]; rfl)⟩
end Go.Proofs.Ytbnhmioijeagiaa.Ab
/- Package choose: pointers of picks against nil. No condition. -/
set_option linter.unusedVariables false
set_option linter.unusedSimpArgs false
namespace Go.Proofs.Ytbnhmioijeagiaa.Ab
section
variable {P : Program} {T : List TI} {N : Nat} {ops : Array Oper} {o : Oper} {rest : List Oper} {Q : Exit → St → Prop} {E F : Env} {M : List Ob}
def nilB : A → Option Bool
  | .nilp => some true
  | .pp _ => some false
  | .cp _ => some false
  | _ => none
theorem ptr_nil_run {t e : Nat} (h : P.underlying t = some (.pointer e)) (p : Option Addr) (w : World) : (binOp .eql t (.pointer p) (.pointer none)).run P w = .ok (.bool p.isNone) w := by
  have : ∀ d, (Op.equalIn (d + 1) t (.pointer p) (.pointer none)).run P w = .ok p.isNone w := by
    intro d
    rw [Op.equalIn]
    cases p <;> simp [run_und h]
  have h2 := this 9999
  have e' : Op.maxDepth = 9999 + 1 := rfl
  simp only [binOp, Op.equal, e']
  simp [h2]
theorem ptr_nne_run {t e : Nat} (h : P.underlying t = some (.pointer e)) (p : Option Addr) (w : World) : (binOp .neq t (.pointer p) (.pointer none)).run P w = .ok (.bool (!p.isNone)) w := by
  have : ∀ d, (Op.equalIn (d + 1) t (.pointer p) (.pointer none)).run P w = .ok p.isNone w := by
    intro d
    rw [Op.equalIn]
    cases p <;> simp [run_und h]
  have h2 := this 9999
  have e' : Op.maxDepth = 9999 + 1 := rfl
  simp only [binOp, Op.equal, e']
  simp [h2]
theorem nilB_rep {G : Gh} {x : A} {v : Value} {b : Bool} (h : nilB x = some b) (hr : Rep G x v) : ∃ p, v = .pointer p ∧ p.isNone = b := by
  cases x <;> simp [nilB] at h
  · subst h; simp only [Rep] at hr; exact ⟨none, hr, rfl⟩
  · subst h
    obtain ⟨b, off, vs, e, _⟩ := hr
    exact ⟨_, e, rfl⟩
  · subst h
    obtain ⟨b, off, vs, e, _⟩ := hr
    exact ⟨_, e, rfl⟩
theorem aops_pz (hT : TOk P T) {t t' e d : Nat} {x : Operand} {b : Bool} (ho : o.op = .binOp .eql t x (.const (.pointer none)) t') (ht : kindOf T t = some (.ptr e)) (hx : nilB (opA E x) = some b) (hg : guardOn ops o E = some true) (hd : o.dst = some d) (hN : Nat.blt d N = true)
    (next : AOps P N ops rest Q ⟨(d, .bool b) :: E, M⟩) : AOps P N ops (o :: rest) Q ⟨E, M⟩ := by
  refine aops_val hg (by rw [hd]; exact hN) (.bool b) M (fun K G av w hi => ?_) (by rw [hd]; exact next)
  obtain ⟨p, hv, hp⟩ := nilB_rep hx (opA_rep hi x)
  refine ⟨.bool b, w, G, ?_, hi.ok, G.le_refl, rfl⟩
  have e1 : av.eval (.const (.pointer none)) = .pointer none := rfl
  simp only [execOp, ho, hv, e1, Sem.run_bind, eqGuard_run (P := P) (w := w) (op := .eql) (t := t) (x := x) (y := .const (.pointer none)) (u := .pointer p) (v := .pointer none) (.inr (.inr (.inr ⟨_, rfl⟩))), ptr_nil_run (kindOf_ptr hT ht), Result.andThen_ok, hp]
  rfl
theorem aops_pnz (hT : TOk P T) {t t' e d : Nat} {x : Operand} {b : Bool} (ho : o.op = .binOp .neq t x (.const (.pointer none)) t') (ht : kindOf T t = some (.ptr e)) (hx : nilB (opA E x) = some b) (hg : guardOn ops o E = some true) (hd : o.dst = some d) (hN : Nat.blt d N = true)
    (next : AOps P N ops rest Q ⟨(d, .bool (!b)) :: E, M⟩) : AOps P N ops (o :: rest) Q ⟨E, M⟩ := by
  refine aops_val hg (by rw [hd]; exact hN) (.bool (!b)) M (fun K G av w hi => ?_) (by rw [hd]; exact next)
  obtain ⟨p, hv, hp⟩ := nilB_rep hx (opA_rep hi x)
  refine ⟨.bool (!b), w, G, ?_, hi.ok, G.le_refl, rfl⟩
  have e1 : av.eval (.const (.pointer none)) = .pointer none := rfl
  simp only [execOp, ho, hv, e1, Sem.run_bind, eqGuard_run (P := P) (w := w) (op := .neq) (t := t) (x := x) (y := .const (.pointer none)) (u := .pointer p) (v := .pointer none) (.inr (.inr (.inr ⟨_, rfl⟩))), ptr_nne_run (kindOf_ptr hT ht), Result.andThen_ok, hp]
  rfl
theorem seqT_pz (hT : TOk P T) {l : List Oper} {n : Nat} {t t' e d : Nat} {x : Operand} {b : Bool} (ho : o.op = .binOp .eql t x (.const (.pointer none)) t') (ht : kindOf T t = some (.ptr e)) (hx : nilB (opA F x) = some b) (hg : guardOn ops o F = some true) (hd : o.dst = some d) (hN : Nat.blt d N = true)
    (next : SeqT P N ops Q M ((d, .bool b) :: F) n l) : SeqT P N ops Q M F (n + 1) (o :: l) := by
  refine seqT_y (x := .bool b) (fun E hE rest Q next => ?_) hd next
  refine aops_pz hT ho ht (by rw [agree_op hE (by rw [ho]; simp [Op.operands])]; exact hx) ((agree_guard hE).trans hg) hd hN ?_
  rwa [hd] at next
end
theorem pnil_tk (p : Pk) : nilB (pkA p) = some p.isTk := by cases p <;> rfl
end Go.Proofs.Ytbnhmioijeagiaa.Ab
/- Pointers to frozen variables whose block bears no mark: they are held against each other. No condition. -/
set_option linter.unusedVariables false
set_option linter.unusedSimpArgs false
namespace Go.Proofs.Ytbnhmioijeagiaa.Ab
section
variable {P : Program} {T : List TI} {N : Nat} {ops : Array Oper} {rest : List Oper} {o : Oper} {Q : Exit → St → Prop} {E F : Env} {M : List Ob}
/-- A struct of one's own is frozen, and it is kept that its block bears no mark. -/
theorem inv_publish_cp {K : Ctx} {G : Gh} {a : Act} {w : World} (hi : Inv K N G ⟨E, M⟩ a w) {k t : Nat} {b room : Nat} {cs : List A} (h : get E t = .ref b 0) (hM : M[k]? = some ⟨some b, room, cs⟩) (hne : cs ≠ []) :
    ∃ G', Inv K N G' ⟨(t, .cp cs) :: E, M.eraseIdx k⟩ a w := by
  obtain ⟨G', hle, hok, hb, hn, hU⟩ := ok_publish hi.ok hM
  obtain ⟨vs, hl, hat, hlen⟩ := hb b rfl
  obtain ⟨us, sp, t', hh, _⟩ := hi.ok.ow _ (List.mem_of_getElem? hM) b rfl
  let G2 : Gh := ⟨G'.Z, G'.Y, fun j => j = b ∨ G'.U j, G'.W⟩
  have hle2 : G'.le G2 := ⟨fun _ => List.prefix_refl _, fun _ _ e => e, fun _ e => .inr e, fun _ _ e => e⟩
  have hzb : G'.Z b ≠ [] := by
    intro e
    obtain ⟨u, hu⟩ := hat
    rw [e] at hu
    simp at hu
    have := hl.length
    rw [hu.1] at this
    exact hne (List.eq_nil_of_length_eq_zero (by simpa using this.symm))
  refine ⟨G2, ⟨Gh.le_trans hok.g hle2, hok.os, hok.tape, hok.output, hok.size, hok.fr, hok.fz, fun o ho b' hb' => ?_, hok.vn, hok.un, hok.kb, hok.nd, hok.mz, fun j hj => ?_, hok.wt⟩, hi.sz, hi.df, fun s => ?_⟩
  · obtain ⟨us, sp, t, a1, a2, a3⟩ := hok.ow o ho b' hb'
    exact ⟨us, sp, t, a1, a2.mono hle2, a3⟩
  · rcases hj with rfl | hj
    · exact ⟨hzb, _, t', hh⟩
    · exact hok.um j hj
  · simp only [get]
    by_cases e : t = s
    · subst e
      have hev := hi.ev t
      simp only at hev
      rw [h] at hev
      simp only [Rep] at hev
      have : Nat.beq t t = true := by simp
      rw [this, cond_true]
      exact ⟨b, 0, vs, hev, hat, RepL.mono hle2 _ _ hl, .inl rfl⟩
    · have hb : Nat.beq t s = false := by
        cases hb : Nat.beq t s with
        | false => rfl
        | true => exact absurd (Nat.eq_of_beq_eq_true hb) e
      rw [hb]
      exact (hi.ev s).mono (Gh.le_trans hle hle2)
theorem acode_pubcp0 {c : Code} (t : Nat) {b room : Nat} {cs : List A} (h : get E t = .ref b 0) (hne : cs ≠ []) (next : ACode P N c Q ⟨(t, .cp cs) :: E, M⟩) : ACode P N c Q ⟨E, ⟨some b, room, cs⟩ :: M⟩ :=
  acode_weaken (fun K G a w hi => inv_publish_cp hi h (k := 0) rfl hne) next
theorem aops_pubcp0 {l : List Oper} (t : Nat) {b room : Nat} {cs : List A} (h : get E t = .ref b 0) (hne : cs ≠ []) (next : AOps P N ops l Q ⟨(t, .cp cs) :: E, M⟩) : AOps P N ops l Q ⟨E, ⟨some b, room, cs⟩ :: M⟩ :=
  aops_weaken (fun K G a w hi => inv_publish_cp hi h (k := 0) rfl hne) next
/-- The same cells may lie at both. -/
def SameC (xs ys : List A) : Prop := ∃ (G : Gh) (vs : List Value), RepL G xs vs ∧ RepL G ys vs
/-- Two such pointers are held against each other: where they are one, the same cells are told of. -/
theorem peq_run {K : Ctx} {G : Gh} {w : World} {t e : Nat} {ei : TypeInfo} {xs ys : List A} {u v : Value} (hok : Ok K G M w) (hu : P.underlying t = some (.pointer e)) (he : P.info? e = some ei) (hsz : ei.size ≠ 0) (hl : xs.length = ys.length) (hx : Rep G (.cp xs) u) (hy : Rep G (.cp ys) v) :
    ∃ b, (binOp .eql t u v).run P w = .ok (.bool b) w ∧ (b = true → SameC xs ys) := by
  simp only [Rep] at hx hy
  obtain ⟨b, off, vs, rfl, ha, h1, h2⟩ := hx
  obtain ⟨c, off', vs', rfl, ha', h1', h2'⟩ := hy
  by_cases hne : (⟨b, off, none⟩ : Addr) = ⟨c, off', none⟩
  · simp only [Addr.mk.injEq, and_true] at hne
    obtain ⟨rfl, rfl⟩ := hne
    refine ⟨true, run_eql_ptr_same w _ hu he, fun _ => ⟨G, vs, h1, ?_⟩⟩
    have : vs = vs' := by
      have e1 := h1.length
      have e2 := h1'.length
      exact List.IsPrefix.eq_of_length (List.prefix_of_prefix_length_le ha ha' (by omega)) (by omega)
    rw [this]; exact h1'
  · obtain ⟨_, c1, t1, e1⟩ := hok.um b h2
    obtain ⟨_, c2, t2, e2⟩ := hok.um c h2'
    exact ⟨false, run_eql_ptr_other w hu he hsz hne e1 e2, fun h => by cases h⟩
theorem aops_peq (hT : TOk P T) {t t' e d : Nat} {ei : TI} {x y : Operand} {xs ys : List A} (ho : o.op = .binOp .eql t x y t') (ht : kindOf T t = some (.ptr e)) (he : known T e = some ei) (hsz : Nat.blt 0 ei.size = true) (hx : opA E x = .cp xs) (hy : opA E y = .cp ys) (hl : xs.length = ys.length)
    (hg : guardOn ops o E = some true) (hd : o.dst = some d) (hN : Nat.blt d N = true) (next : ∀ b, (b = true → SameC xs ys) → AOps P N ops rest Q ⟨(d, .bool b) :: E, M⟩) : AOps P N ops (o :: rest) Q ⟨E, M⟩ := by
  refine aops_rel hg (by rw [hd]; exact hN) (fun y L => ∃ b, y = .bool b ∧ (b = true → SameC xs ys) ∧ L = M) (fun K G av w hi => ?_) ?_
  · have hrx := opA_rep hi x
    have hry := opA_rep hi y
    rw [hx] at hrx; rw [hy] at hry
    obtain ⟨k1, k2⟩ := known_spec he
    obtain ⟨info, z, hi1, hi2, _⟩ := (hT.get k1 k2).info
    have hsz : 0 < ei.size := by simpa using hsz
    obtain ⟨b, hrun, hb⟩ := peq_run hi.ok (kindOf_ptr hT ht) hi1 (by omega) hl hrx hry
    refine ⟨.bool b, w, G, .bool b, M, ?_, hi.ok, G.le_refl, rfl, b, rfl, hb, rfl⟩
    obtain ⟨b1, off, vs, e1, _⟩ := hrx
    rw [e1] at hrun
    simp only [execOp, ho, e1, Sem.run_bind, eqGuard_run (P := P) (w := w) (op := .eql) (t := t) (x := x) (y := y) (u := .pointer (some ⟨b1, off, none⟩)) (v := av.eval y) (.inr (.inr (.inr ⟨_, rfl⟩))), hrun, Result.andThen_ok]
    rfl
  · rintro y L ⟨b, rfl, hb, rfl⟩
    rw [hd]
    exact next b hb
end
end Go.Proofs.Ytbnhmioijeagiaa.Ab
/- Package choose: two picks of different rules held against each other: the walk. No condition. -/
set_option linter.unusedVariables false
set_option linter.unusedSimpArgs false
namespace Go.Proofs.Ytbnhmioijeagiaa.Ab
section
variable {P : Program} {T : List TI} {N : Nat} {ops : Array Oper} {o : Oper} {rest : List Oper} {Q : Exit → St → Prop} {E F : Env} {M : List Ob}
/-- The beginning of a slice of one's own; its cells stay as they are. -/
theorem aops_slo (hT : TOk P T) {t e : Nat} {ei : TI} {x h : Operand} {i : Int} {kk : IntKind} {ob : Option Nat} {n cap : Nat} (ho : o.op = .slice t x none (some h) none) (hs : sliceOf T t = some (e, ei)) (hx : opA E x = .own ob n cap) (hh : opA E h = .int kk i)
    (h0 : 0 ≤ i) (h1 : i ≤ n) (hnc : n ≤ cap) (n' : Nat) (hn' : n' = i.toNat) (hg : guardOn ops o E = some true) (hd : dstOk N o.dst = true)
    (next : AOps P N ops rest Q ⟨put E o.dst (.own ob n' cap), M⟩) : AOps P N ops (o :: rest) Q ⟨E, M⟩ := by
  refine aops_val hg hd _ M (fun K G a w hi => ?_) next
  subst hn'
  have hr := opA_rep hi x
  have hrh := opA_rep hi h
  rw [hx] at hr; rw [hh] at hrh
  simp only [Rep] at hrh
  obtain ⟨hu, hgt, _⟩ := sliceOf_spec hT hs
  have hic : i ≤ cap := by omega
  cases ob with
  | none =>
    obtain ⟨hv, rfl, rfl⟩ := hr
    have hi0 : i = 0 := by omega
    subst hi0
    refine ⟨.slice none 0 0, w, G, ?_, hi.ok, G.le_refl, ⟨rfl, rfl, rfl⟩⟩
    simp [execOp, ho, hv, hrh, Instr.sliceAt, run_und hu, Instr.slice, Instr.sliceBounds, bound_run, run_size hgt]
  | some b =>
    simp only [Rep] at hr
    refine ⟨.slice (some ⟨b, 0, none⟩) i.toNat cap, w, G, ?_, hi.ok, G.le_refl, rfl⟩
    have e2 : (if cap = 0 then (some ⟨b, 0, none⟩ : Option Addr) else some (Addr.add ⟨b, 0, none⟩ (0 * ei.size))) = some ⟨b, 0, none⟩ := by simp [addr_add]
    simp only [execOp, ho, hr, hrh, Instr.sliceAt, Sem.run_bind, run_und hu, Result.andThen_ok, Instr.slice, Instr.sliceBounds, Option.map_none, Option.map_some, Sem.run_pure, bound_run h0 hic, run_size hgt]
    simp [addr_add]
theorem yields_slo (hT : TOk P T) {t e : Nat} {ei : TI} {x h : Operand} {i : Int} {kk : IntKind} {ob : Option Nat} {n cap : Nat} (ho : o.op = .slice t x none (some h) none) (hs : sliceOf T t = some (e, ei)) (hx : opA F x = .own ob n cap) (hh : opA F h = .int kk i)
    (h0 : 0 ≤ i) (h1 : i ≤ n) (hnc : n ≤ cap) (n' : Nat) (hn' : n' = i.toNat) (hg : guardOn ops o F = some true) (hd : dstOk N o.dst = true) : Yields P N ops o (.own ob n' cap) F M := by
  intro E hE rest Q next
  exact aops_slo hT ho hs ((agree_op hE (by rw [ho]; simp [Op.operands])).trans hx) ((agree_op hE (by rw [ho]; simp [Op.operands])).trans hh) h0 h1 hnc n' hn' ((agree_guard hE).trans hg) hd next
theorem seqO_slo (hT : TOk P T) {kp : List Ob} {al : List Nat} {q : Nat} {ll : List Oper} {m d : Nat} (n' : Nat) {t e : Nat} {ei : TI} {x h : Operand} {i : Int} {kk : IntKind} {ob : Option Nat} {n cap : Nat} (hq : al.contains q = false) (ho : o.op = .slice t x none (some h) none) (hs : sliceOf T t = some (e, ei)) (hx : opA F x = .own ob n cap) (hh : opA F h = .int kk i)
    (h0 : 0 ≤ i) (h1 : i ≤ n) (hnc : n ≤ cap) (hn' : n' = i.toNat) (hg : guardOn ops o F = some true) (hd : o.dst = some d) (hN : Nat.blt d N = true) (next : SeqO P N ops Q kp al (q + 1) ((d, .own ob n' cap) :: F) M m ll) : SeqO P N ops Q kp al q F M (m + 1) (o :: ll) :=
  seqO_y hq (fun M' => yields_slo hT ho hs hx hh h0 h1 hnc n' hn' hg (by rw [hd]; exact hN)) hd next
/-- The last cells of an object of one's own are no longer told of. -/
theorem inv_trim {K : Ctx} {G : Gh} {a : Act} {w : World} (k n : Nat) {ob : Option Nat} {room : Nat} {cs : List A} (hM : M[k]? = some ⟨ob, room, cs⟩) (hi : Inv K N G ⟨E, M⟩ a w) : Inv K N G ⟨E, M.set k ⟨ob, room, cs.take n⟩⟩ a w := by
  refine ⟨?_, hi.sz, hi.df, hi.ev⟩
  have hk := hi.ok
  have hmem := List.mem_of_getElem? hM
  have hlt : k < M.length := (List.getElem?_eq_some_iff.1 hM).1
  cases ob with
  | none =>
    obtain ⟨e1, _⟩ := hk.vn _ hmem rfl
    simp only at e1
    subst e1
    have : M.set k ⟨none, room, List.take n []⟩ = M := by
      obtain ⟨_, e2⟩ := List.getElem?_eq_some_iff.1 hM
      rw [List.take_nil, ← e2]; exact List.set_getElem_self hlt
    rw [this]; exact hk
  | some b =>
    obtain ⟨vs, sp, t', hh, hl, hroom⟩ := hk.ow _ hmem b rfl
    refine hk.update hM rfl _ ⟨rfl, rfl, rfl, rfl, fun _ _ => rfl⟩ ⟨vs.take n, vs.drop n ++ sp, t', ?_, hl.take _, ?_⟩ (fun c t f e => ⟨c, f, e⟩)
    · rw [← List.append_assoc, List.take_append_drop]; exact hh
    · simp at hroom ⊢; omega
theorem acode_trim {c : Code} (k n : Nat) {ob : Option Nat} {room : Nat} {cs cs' : List A} {M' : List Ob} (hM : M[k]? = some ⟨ob, room, cs⟩) (hcs : cs.take n = cs') (hM' : M.set k ⟨ob, room, cs'⟩ = M') (next : ACode P N c Q ⟨E, M'⟩) : ACode P N c Q ⟨E, M⟩ := by
  subst hcs; subst hM'
  exact acode_weaken (fun K G a w hi => ⟨G, inv_trim k n hM hi⟩) next
theorem aops_trim {l : List Oper} (k n : Nat) {ob : Option Nat} {room : Nat} {cs cs' : List A} {M' : List Ob} (hM : M[k]? = some ⟨ob, room, cs⟩) (hcs : cs.take n = cs') (hM' : M.set k ⟨ob, room, cs'⟩ = M') (next : AOps P N ops l Q ⟨E, M'⟩) : AOps P N ops l Q ⟨E, M⟩ := by
  subst hcs; subst hM'
  exact aops_weaken (fun K G a w hi => ⟨G, inv_trim k n hM hi⟩) next
end
attribute [local irreducible] thenA inBlockA ACode AOps put IntKind.wrap

theorem isNaNi_calls {x : Int} (M : List Ob) : ACalls Try.prog 114 [.int .i64 x] M (fun r M' => r = .bool false ∧ M' = M) := by
  refine acalls_of_code 6 Try.func114 rfl rfl rfl ?_
  repeat' (first | refine aops_end ?_ | (refine aops_pn tok rfl rfl rfl rfl ?_ ?_ <;> intro e_) | refine aops_p tok rfl rfl rfl rfl ?_ | refine acode_seq ?_ | refine acode_region ?_)
  all_goals try (exfalso; omega)
  refine acode_ret ?_
  skip
  exact ⟨.bool false, ⟨rfl, rfl⟩, resOf_tmp (by first | rfl | simp)⟩
def cmpI (a b : Int) : Int := if a < b then -1 else if a > b then 1 else 0
theorem ccmp_calls {a b : Int} (M : List Ob) : ACalls Try.prog 105 [.int .i64 a, .int .i64 b] M (fun r M' => r = .int .i64 (cmpI a b) ∧ M' = M) := by
  refine acalls_of_code 20 Try.func105 rfl rfl rfl ?_
  repeat (first | refine aops_end ?_ | refine aops_p tok rfl rfl rfl rfl ?_ | refine acode_seq ?_ | refine acode_region ?_)
  refine aops_callx Try.func114 rfl rfl rfl rfl (isNaNi_calls _) rfl rfl rfl ?_
  repeat (first | refine aops_end ?_ | refine aops_p tok rfl rfl rfl rfl ?_ | refine acode_seq ?_ | refine acode_region ?_)
  refine aops_callx Try.func114 rfl rfl rfl rfl (isNaNi_calls _) rfl rfl rfl ?_
  unfold cmpI
  repeat' (first | refine aops_end ?_ | (refine aops_pd tok rfl rfl rfl rfl ?_ ?_ <;> intro e_) | refine aops_p tok rfl rfl rfl rfl ?_ | refine acode_it rfl ?_ | refine acode_if rfl ?_ | refine acode_seq ?_ | refine acode_region ?_ | refine acode_skip ?_ | refine then_n ?_)
  · rw [if_pos (by omega)]
    refine acode_ret ?_
    repeat (refine ret_then ?_)
    exact ⟨_, ⟨rfl, rfl⟩, resOf_tmp rfl⟩
  · rw [if_neg (by omega), if_pos (by omega)]
    refine acode_ret ?_
    repeat (refine ret_then ?_)
    exact ⟨_, ⟨rfl, rfl⟩, resOf_tmp rfl⟩
  · rw [if_neg (by omega), if_neg (by omega)]
    refine acode_ret ?_
    skip
    exact ⟨_, ⟨rfl, rfl⟩, resOf_tmp rfl⟩
/-- The next pick of a row that is not empty. -/
theorem next_calls {b : Nat} {ob : Option Nat} {cap : Nat} {cs ys : List A} (hc : cs.length + 1 ≤ cap) (hl : cs.length ≤ 1000000000) (M : List Ob) : ACalls Try.prog 104 [.ref b 0] (⟨some b, 1, [.own ob (cs.length + 1) cap]⟩ :: ⟨ob, cap * 1, cs ++ [.cp ys]⟩ :: M) (fun r M' => r = .cp ys ∧ M' = ⟨some b, 1, [.own ob cs.length cap]⟩ :: ⟨ob, cap * 1, cs⟩ :: M) := by
  refine acalls_of_code 37 Try.func104 rfl rfl rfl ?_
  repeat' (first | refine aops_end ?_ | refine aops_pbf tok rfl (by first | omega | decide) rfl rfl rfl ?_ | refine aops_p tok rfl rfl rfl rfl ?_ | refine acode_if rfl ?_ | refine aops_ld tok 0 rfl rfl rfl rfl rfl rfl rfl rfl ?_ | refine acode_seq ?_ | refine acode_region ?_ | refine acode_skip ?_ | refine then_n ?_)
  all_goals try (exfalso; omega)
  refine acode_somed 7 rfl (by omega) fun c hc2 => ?_
  subst hc2
  refine acode_drawT 12 mixed (by kernel_rfl) (by kernel_rfl) ?_
  repeat (first | refine seqT_a tok rfl (by omega) (by omega) rfl rfl rfl ?_ | refine seqT_p tok rfl rfl rfl rfl ?_ | refine seqT_ld tok 0 rfl rfl rfl rfl rfl rfl rfl rfl ?_)
  refine seqT_ixo tok rfl rfl rfl rfl (by omega) (by omega) rfl rfl rfl ?_
  refine seqT_ld tok 1 (y := .cp ys) rfl rfl rfl rfl (by rw [headed_eq]; show (cs ++ [A.cp ys])[((cs.length + 1 : Nat) - 1 : Int).toNat * 1]? = _; rw [show ((cs.length + 1 : Nat) - 1 : Int).toNat * 1 = cs.length by omega]; simp) rfl rfl rfl ?_
  refine SeqT.done ?_
  repeat (first | refine aops_end ?_ | refine aops_p tok rfl rfl rfl rfl ?_ | refine acode_seq ?_)
  refine acode_drawP [] 12 [0, 1, 2, 3, 4, 5, 6, 7, 8, 9, 10, 11] [] mixed (by kernel_rfl) (by kernel_rfl) rfl ?_
  refine seqO_T rfl ?_
  repeat (first | refine seqT_a tok rfl (by omega) (by omega) rfl rfl rfl ?_ | refine seqT_p tok rfl rfl rfl rfl ?_ | refine seqT_ld tok 0 rfl rfl rfl rfl rfl rfl rfl rfl ?_)
  refine seqT_y (yields_slo tok (i := (cs.length : Int)) (kk := .i64) rfl rfl rfl (by show A.int _ _ = A.int _ _; congr 1; omega) (by omega) (by omega) hc cs.length (by omega) rfl rfl) rfl ?_
  refine SeqT.done ?_
  repeat (first | refine aops_end ?_ | refine aops_p tok rfl rfl rfl rfl ?_ | refine aops_stn tok rfl rfl rfl rfl rfl rfl rfl rfl rfl ?_ | refine acode_seq ?_ | refine acode_region ?_)
  refine acode_trim (cs' := cs) 1 cs.length rfl (by simp) rfl ?_
  refine acode_ret ?_
  skip
  exact ⟨_, ⟨rfl, rfl⟩, resOf_tmp rfl⟩
theorem same_int {k k' : IntKind} {a b : Int} {xs ys : List A} (h : SameC (.int k a :: xs) (.int k' b :: ys)) : a = b := by
  obtain ⟨G, vs, h1, h2⟩ := h
  obtain ⟨v, vs1, rfl, h3, _⟩ := h1
  obtain ⟨v', vs2, e, h4, _⟩ := h2
  simp only [Rep] at h3 h4
  cases e
  rw [h3] at h4
  cases h4; rfl
set_option maxHeartbeats 4000000 in
theorem cmpR_calls {a1 a2 : Al} {w1 w2 : Int} {k1 k2 : List Pk} (h : a1.rule ≠ a2.rule) (M : List Ob) : ACalls Try.prog 88 [pkA (.nd a1 w1 k1), pkA (.nd a2 w2 k2)] M (fun r M' => r = .int .i64 (cmpI a1.rule a2.rule) ∧ M' = M) := by
  rw [pkA_nd, pkA_nd]
  refine acalls_of_code 62 Try.func88 rfl rfl rfl ?_
  repeat (first | refine aops_end ?_ | refine aops_p tok rfl rfl rfl rfl ?_ | refine acode_seq ?_ | refine acode_region ?_)
  refine aops_lito tok rfl rfl rfl rfl rfl rfl rfl fun o1 => ?_
  repeat (refine aops_p tok rfl rfl rfl rfl ?_)
  refine aops_lito tok rfl rfl rfl rfl rfl rfl rfl fun o2 => ?_
  repeat (refine aops_p tok rfl rfl rfl rfl ?_)
  refine aops_alloc tok rfl rfl rfl rfl rfl rfl fun b5 => ?_
  skip
  refine aops_alloc tok rfl rfl rfl rfl rfl rfl fun b6 => ?_
  repeat (first | refine aops_end ?_ | refine aops_stn tok rfl rfl rfl rfl rfl rfl rfl rfl rfl ?_ | refine aops_stn1 tok rfl rfl rfl rfl rfl rfl rfl rfl rfl ?_ | refine acode_block ?_)
  refine acode_loopS (ι := Unit) (fun _ => [(5, .ref b5 0), (6, .ref b6 0)]) (fun _ => [⟨some b6, 1, [.own (some o2) 1 1]⟩, ⟨some b5, 1, [.own (some o1) 1 1]⟩, ⟨some o2, 1, [.cp [.int .i64 a2.rule, .psl a2.kids.length (ints a2.kids), .int .i64 w2, .psl k2.length (encs pk1 k2)]]⟩, ⟨some o1, 1, [.cp [.int .i64 a1.rule, .psl a1.kids.length (ints a1.kids), .int .i64 w1, .psl k1.length (encs pk1 k1)]]⟩] ++ M) (fun _ => 0) (fun _ => True) () trivial ⟨rfl, rfl, trivial⟩ rfl ?_
  rintro - -
  refine acode_perm (⟨some b5, 1, [.own (some o1) 1 1]⟩ :: ⟨some o1, 1, [.cp [.int .i64 a1.rule, .psl a1.kids.length (ints a1.kids), .int .i64 w1, .psl k1.length (encs pk1 k1)]]⟩ :: ⟨some b6, 1, [.own (some o2) 1 1]⟩ :: ⟨some o2, 1, [.cp [.int .i64 a2.rule, .psl a2.kids.length (ints a2.kids), .int .i64 w2, .psl k2.length (encs pk1 k2)]]⟩ :: M) ?_ ?_
  · exact (List.Perm.swap _ _ _).trans (.cons _ (List.perm_middle (l₁ := [_, _])))
  repeat (first | refine acode_seq ?_ | refine acode_region ?_ | refine acode_block ?_)
  refine aops_call Try.func104 rfl rfl rfl rfl (next_calls (b := b5) (ob := some o1) (cap := 1) (cs := []) (by decide) (by decide) _) rfl rfl ?_
  rintro y M' ⟨rfl, rfl⟩
  repeat (refine aops_put rfl ?_)
  refine aops_perm (⟨some b6, 1, [.own (some o2) 1 1]⟩ :: ⟨some o2, 1, [.cp [.int .i64 a2.rule, .psl a2.kids.length (ints a2.kids), .int .i64 w2, .psl k2.length (encs pk1 k2)]]⟩ :: ⟨some b5, 1, [.own (some o1) 0 1]⟩ :: ⟨some o1, 1, []⟩ :: M) ?_ ?_
  · exact List.perm_append_comm_assoc [_, _] [_, _] M
  refine aops_call Try.func104 rfl rfl rfl rfl (next_calls (b := b6) (ob := some o2) (cap := 1) (cs := []) (by decide) (by decide) _) rfl rfl ?_
  rintro y M' ⟨rfl, rfl⟩
  repeat (first | refine aops_put rfl ?_ | refine aops_end ?_ | refine aops_p tok rfl rfl rfl rfl ?_ | refine acode_seq ?_ | refine acode_region ?_ | refine acode_block ?_)
  refine aops_pz tok (b := false) rfl rfl rfl rfl rfl rfl ?_
  repeat (refine aops_p tok rfl rfl rfl rfl ?_)
  refine aops_pz tok (b := false) rfl rfl rfl rfl rfl rfl ?_
  repeat' (first | refine aops_end ?_ | refine aops_p tok rfl rfl rfl rfl ?_ | refine acode_if rfl ?_ | refine acode_seq ?_ | refine acode_region ?_)
  refine aops_peq tok rfl rfl rfl rfl rfl rfl rfl rfl rfl rfl fun q hq => ?_
  cases q with
  | true => exact absurd (same_int (hq rfl)) h
  | false =>
    repeat' (first | refine aops_end ?_ | refine aops_p tok rfl rfl rfl rfl ?_ | refine acode_if rfl ?_ | refine acode_seq ?_)
    refine acode_drawT 12 mixed (by kernel_rfl) (by kernel_rfl) ?_
    repeat' (first | (refine seqT_pn tok rfl rfl rfl rfl ?_ ?_ <;> intro e_) | refine seqT_p tok rfl rfl rfl rfl ?_)
    all_goals try (exfalso; omega)
    refine SeqT.done ?_
    repeat' (first | refine aops_end ?_ | refine acode_it rfl ?_ | refine acode_seq ?_)
    refine acode_drawT 11 mixed (by kernel_rfl) (by kernel_rfl) ?_
    repeat (refine seqT_p tok rfl rfl rfl rfl ?_)
    refine seqT_call _ Try.func105 rfl rfl rfl rfl (ccmp_calls _) rfl rfl rfl ?_
    refine SeqT.done ?_
    repeat (first | refine aops_end ?_ | refine aops_p tok rfl rfl rfl rfl ?_)
    refine acode_drop0 (acode_drop0 (acode_drop0 (acode_drop0 ?_)))
    refine acode_ret ?_
    repeat (first | refine ret_then ?_ | refine ret_block ?_)
    exact ⟨_, ⟨rfl, rfl⟩, resOf_tmp rfl⟩
end Go.Proofs.Ytbnhmioijeagiaa.Ab
/- Package choose: the best of a node's picks, where no two that are held against each other have one rule: the walk. No condition. -/
set_option linter.unusedVariables false
set_option linter.unusedSimpArgs false
namespace Go.Proofs.Ytbnhmioijeagiaa.Ab
attribute [local irreducible] thenA inBlockA ACode AOps put IntKind.wrap

/-- Of a row of picks no two weigh the same. -/
def DistW (l : List Pk) : Prop := l.Pairwise fun p q => p.isTk = true ∨ q.isTk = true ∨ p.wt ≠ q.wt
/-- Of a row of picks no two have one weight and one rule. -/
def DistB (l : List Pk) : Prop := l.Pairwise fun p q => p.isTk = true ∨ q.isTk = true ∨ p.wt ≠ q.wt ∨ p.rule ≠ q.rule
theorem DistW.toB {l : List Pk} (h : DistW l) : DistB l := List.Pairwise.imp (fun {a b} h => by rcases h with h | h | h; exact .inl h; exact .inr (.inl h); exact .inr (.inr (.inl h))) h
/-- How the chooser lies: its box and the rows of picks. -/
def cellsP (T : Nat → List Pk) (n : Nat) (l : List Nat) : List A := (List.range n).map fun j => if j ∈ l then .psl (T j).length (encs pk1 (T j)) else .nils
theorem cellsP_len (T : Nat → List Pk) (n : Nat) (l : List Nat) : (cellsP T n l).length = n := by simp [cellsP]
theorem cellsP_in {T : Nat → List Pk} {n : Nat} {l : List Nat} {j : Nat} (hj : j < n) (h : j ∈ l) : (cellsP T n l)[j]? = some (.psl (T j).length (encs pk1 (T j))) := by
  unfold cellsP; rw [List.getElem?_map, List.getElem?_range hj]; simp [h]
abbrev chM (g : Gr) (f : Fo) (ks : List (List Int)) (b bs : Nat) (cells : List A) (M : List Ob) : List Ob :=
  ⟨some bs, f.nodes.length * 1, cells⟩ :: ⟨some b, 11, grC g ++ foC f ++ [.mp ks, .own (some bs) f.nodes.length f.nodes.length]⟩ :: M
theorem bestS_nd {may : Int → Bool} {a1 a2 : Al} {w1 w2 : Int} {k1 k2 : List Pk} (hm : may a1.rule = true) : bestS may (.nd a2 w2 k2) (.nd a1 w1 k1) = if (decide (w1 > w2) || (decide (w1 = w2) && decide (a1.rule < a2.rule))) = true then .nd a1 w1 k1 else .nd a2 w2 k2 := by
  unfold bestS
  rw [show (Pk.nd a1 w1 k1).rule = a1.rule from rfl, hm]
  rfl
theorem bestS_no {may : Int → Bool} {out p : Pk} (h : (p.isTk || !may p.rule) = true) : bestS may out p = out := by
  unfold bestS; rw [if_pos h]
theorem bestS_tk {may : Int → Bool} {p : Pk} (h : p.isTk = false) (hm : may p.rule = true) : bestS may .tk p = p := by
  unfold bestS; rw [if_neg (by simp [h, hm])]; rfl
theorem cmpI_neg {a b : Int} : cmpI a b < 0 ↔ a < b := by
  unfold cmpI
  split
  · omega
  · split <;> omega
set_option maxHeartbeats 8000000 in
theorem cbest_calls {g : Gr} {f : Fo} {ks : List (List Int)} {b bs : Nat} {cells : List A} {M : List Ob} {k : Nat} {l : List Pk} {cf : Nat} {cap : List A} {fn : Func} {may : Int → Bool} (hk : k < f.nodes.length) (hc : cells[k]? = some (.psl l.length (encs pk1 l))) (hl : l.length ≤ 9223372036854775807) (hd : DistB l)
    (hf : Try.prog.funcs[cf]? = some fn) (hfn : callable fn = true) (hmay : ∀ p ∈ l, p.isTk = false → ACalls Try.prog cf ([.int .i64 p.rule] ++ cap) (chM g f ks b bs cells M) (fun x M' => x = .bool (may p.rule) ∧ M' = chM g f ks b bs cells M)) :
    ACalls Try.prog 52 [.ref b 0, .int .i64 k, .fn cf cap] (chM g f ks b bs cells M) (fun x M' => x = pkA (bestF may l) ∧ M' = chM g f ks b bs cells M) := by
  refine acalls_of_code 67 Try.func52 rfl rfl rfl ?_
  repeat (first | refine aops_end ?_ | refine aops_p tok rfl rfl rfl rfl ?_ | refine aops_ld tok 1 rfl rfl rfl rfl rfl rfl rfl rfl ?_ | refine acode_seq ?_ | refine acode_region ?_)
  refine aops_ixo tok rfl rfl rfl rfl (by omega) (by omega) rfl rfl rfl ?_
  refine aops_ld tok 0 (y := .psl l.length (encs pk1 l)) rfl rfl rfl rfl (by rw [headed_eq]; show cells[(k : Int).toNat * 1]? = _; rw [Nat.mul_one, Int.toNat_natCast]; exact hc) rfl rfl rfl ?_
  repeat (first | refine aops_end ?_ | refine aops_p tok rfl rfl rfl rfl ?_ | refine acode_block ?_)
  refine acode_loopS (ι := Nat × Pk) (fun q => [(0, .ref b 0), (2, .fn cf cap), (7, pkA q.2), (16, .psl l.length (encs pk1 l)), (17, .int .i64 l.length), (18, .int .i64 q.1)]) (fun _ => chM g f ks b bs cells M) (fun q => l.length - q.1) (fun q => q.1 ≤ l.length ∧ (l.drop q.1).foldl (bestS may) q.2 = bestF may l ∧ (q.2 = .tk ∨ q.2 ∈ l.take q.1)) (0, .tk) ⟨Nat.zero_le _, rfl, .inl rfl⟩ ⟨rfl, rfl, rfl, rfl, rfl, rfl, trivial⟩ rfl ?_
  rintro ⟨i, out⟩ ⟨hi, hfold, hout⟩
  simp only at hi hfold hout ⊢
  repeat (first | refine aops_end ?_ | refine aops_p tok rfl rfl rfl rfl ?_ | refine acode_seq ?_ | refine acode_region ?_)
  refine acode_id rfl (fun e => ?_) (fun e => ?_)
  · have hil : i < l.length := by omega
    obtain ⟨p, hp⟩ : ∃ p, l[i]? = some p := ⟨l[i], List.getElem?_eq_getElem hil⟩
    have hpm := List.mem_of_getElem? hp
    have hpa := encs_at (e := pk1) (s := 1) (fun _ => rfl) (i := (i : Int).toNat) (by simpa using hp)
    have hdp : l.drop i = p :: l.drop (i + 1) := by
      rw [List.drop_eq_getElem_cons hil]
      rw [List.getElem?_eq_getElem hil] at hp
      rw [Option.some.inj hp]
    have htk : l.take (i + 1) = l.take i ++ [p] := by rw [List.take_add_one, hp]; rfl
    have hdist : p.isTk = true ∨ out.isTk = true ∨ out.wt ≠ p.wt ∨ out.rule ≠ p.rule := by
      rcases hout with rfl | ho
      · exact .inr (.inl rfl)
      · obtain ⟨j, hj, hjo⟩ := List.getElem_of_mem ho
        rw [List.getElem_take] at hjo
        rw [List.length_take] at hj
        have h1 := (List.pairwise_iff_getElem.1 hd) j i (by omega) hil (by omega)
        rw [List.getElem?_eq_getElem hil] at hp
        rw [hjo, Option.some.inj hp] at h1
        rcases h1 with h1 | h1 | h1
        · exact .inr (.inl h1)
        · exact .inl h1
        · exact .inr (.inr h1)
    rw [hdp, List.foldl_cons] at hfold
    have hin : ∀ (q : Pk), q = out ∨ q = p → q = .tk ∨ q ∈ l.take (i + 1) := by
      rintro q (rfl | rfl)
      · rcases hout with h | h
        · exact .inl h
        · exact .inr (by rw [htk]; simp [h])
      · exact .inr (by rw [htk]; simp)
    repeat (first | refine acode_seq ?_ | refine acode_region ?_ | refine acode_block ?_ | refine acode_skip ?_ | refine then_n ?_)
    refine aops_ix tok [pkA p] rfl rfl rfl rfl (by omega) (by omega) (by simp) hpa rfl rfl rfl ?_
    cases p with
    | tk =>
      rw [bestS_no (p := .tk) rfl] at hfold
      rw [show pkA .tk = .nilp from rfl]
      repeat (first | refine aops_end ?_ | refine aops_p tok rfl rfl rfl rfl ?_ | refine acode_seq ?_ | refine acode_region ?_)
      refine aops_pz tok (b := true) rfl rfl rfl rfl rfl rfl ?_
      repeat' (first | refine aops_end ?_ | refine aops_o rfl rfl rfl ?_ | refine aops_p tok rfl rfl rfl rfl ?_ | refine acode_it rfl ?_)
      refine acode_exit ?_
      repeat (first | refine exit_then ?_ | refine exit_here ?_ | refine then_n ?_)
      repeat (first | refine aops_end ?_ | refine aops_a tok rfl (by omega) (by omega) rfl rfl rfl ?_ | refine aops_p tok rfl rfl rfl rfl ?_ | refine acode_region ?_)
      exact ⟨(i + 1, out), ⟨by simp only; omega, hfold, hin _ (.inl rfl)⟩, by simp only; omega, ⟨rfl, rfl, rfl, rfl, rfl, rfl, trivial⟩, rfl⟩
    | nd a w q =>
      have hmay := hmay _ hpm rfl
      rw [show (Pk.nd a w q).rule = a.rule from rfl] at hmay hdist
      rw [show (Pk.nd a w q).wt = w from rfl] at hdist
      rw [pkA_nd]
      repeat (first | refine aops_end ?_ | refine aops_p tok rfl rfl rfl rfl ?_ | refine acode_seq ?_ | refine acode_region ?_)
      refine aops_pz tok (b := false) rfl rfl rfl rfl rfl rfl ?_
      repeat (refine aops_p tok rfl rfl rfl rfl ?_)
      refine aops_callx hf rfl rfl hfn rfl hmay rfl rfl rfl ?_
      cases hmy : may a.rule with
      | false =>
        rw [bestS_no (p := .nd a w q) (by show (false || !may a.rule) = true; rw [hmy]; rfl)] at hfold
        repeat' (first | refine aops_end ?_ | refine aops_p tok rfl rfl rfl rfl ?_ | refine acode_it rfl ?_)
        refine acode_exit ?_
        repeat (first | refine exit_then ?_ | refine exit_here ?_ | refine then_n ?_)
        repeat (first | refine aops_end ?_ | refine aops_a tok rfl (by omega) (by omega) rfl rfl rfl ?_ | refine aops_p tok rfl rfl rfl rfl ?_ | refine acode_region ?_)
        exact ⟨(i + 1, out), ⟨by simp only; omega, hfold, hin _ (.inl rfl)⟩, by simp only; omega, ⟨rfl, rfl, rfl, rfl, rfl, rfl, trivial⟩, rfl⟩
      | true =>
        cases out with
        | tk =>
          rw [bestS_tk (p := .nd a w q) rfl hmy] at hfold
          rw [show pkA .tk = .nilp from rfl]
          repeat' (first | refine aops_end ?_ | refine aops_p tok rfl rfl rfl rfl ?_ | refine acode_if rfl ?_ | refine acode_seq ?_ | refine acode_skip ?_ | refine then_n ?_)
          refine acode_drawT 30 mixed (by kernel_rfl) (by kernel_rfl) ?_
          repeat (refine seqT_p tok rfl rfl rfl rfl ?_)
          refine seqT_pz tok (b := true) rfl rfl rfl rfl rfl rfl ?_
          repeat (first | refine seqT_o rfl rfl rfl ?_ | refine seqT_p tok rfl rfl rfl rfl ?_)
          refine SeqT.done ?_
          repeat' (first | refine aops_end ?_ | refine aops_endb ?_ | refine aops_a tok rfl (by omega) (by omega) rfl rfl rfl ?_ | refine aops_p tok rfl rfl rfl rfl ?_ | refine acode_it rfl ?_ | refine acode_region ?_ | refine then_n ?_)
          exact ⟨(i + 1, .nd a w q), ⟨by simp only; omega, hfold, hin _ (.inr rfl)⟩, by simp only; omega, ⟨rfl, rfl, by rw [pkA_nd]; rfl, rfl, rfl, rfl, trivial⟩, rfl⟩
        | nd a2 w2 q2 =>
          have hne : w2 ≠ w ∨ a2.rule ≠ a.rule := by
            rcases hdist with h | h | h
            · cases h
            · cases h
            · exact h
          have hcmp := fun (h : a.rule ≠ a2.rule) (M : List Ob) => cmpR_calls (w1 := w) (w2 := w2) (k1 := q) (k2 := q2) h M
          rw [bestS_nd hmy] at hfold
          rw [pkA_nd, pkA_nd] at hcmp
          rw [pkA_nd]
          rcases Int.lt_trichotomy w w2 with hw | hw | hw
          · rw [if_neg (by simp; omega)] at hfold
            repeat' (first | refine aops_end ?_ | refine aops_p tok rfl rfl rfl rfl ?_ | refine acode_if rfl ?_ | refine acode_seq ?_ | refine acode_skip ?_ | refine then_n ?_)
            refine acode_drawT 30 mixed (by kernel_rfl) (by kernel_rfl) ?_
            repeat (refine seqT_p tok rfl rfl rfl rfl ?_)
            refine seqT_pz tok (b := false) rfl rfl rfl rfl rfl rfl ?_
            repeat' (first | refine seqT_o rfl rfl rfl ?_ | (refine seqT_pd tok rfl rfl rfl rfl ?_ ?_ <;> intro e_) | refine seqT_p tok rfl rfl rfl rfl ?_)
            all_goals try (exfalso; omega)
            refine SeqT.done ?_
            repeat' (first | refine aops_end ?_ | refine aops_a tok rfl (by omega) (by omega) rfl rfl rfl ?_ | refine aops_p tok rfl rfl rfl rfl ?_ | refine acode_if rfl ?_ | refine acode_region ?_ | refine acode_skip ?_ | refine then_n ?_ | refine block_n ?_)
            exact ⟨(i + 1, .nd a2 w2 q2), ⟨by simp only; omega, hfold, hin _ (.inl rfl)⟩, by simp only; omega, ⟨rfl, rfl, by rw [pkA_nd]; rfl, rfl, rfl, rfl, trivial⟩, rfl⟩
          · subst hw
            have hr : a.rule ≠ a2.rule := by omega
            have hcmp := hcmp hr
            have hneg := cmpI_neg (a := a.rule) (b := a2.rule)
            generalize cmpI a.rule a2.rule = cv at *
            repeat' (first | refine aops_end ?_ | refine aops_p tok rfl rfl rfl rfl ?_ | refine acode_if rfl ?_ | refine acode_seq ?_ | refine acode_skip ?_ | refine then_n ?_)
            refine acode_drawT 30 mixed (by kernel_rfl) (by kernel_rfl) ?_
            repeat (refine seqT_p tok rfl rfl rfl rfl ?_)
            refine seqT_pz tok (b := false) rfl rfl rfl rfl rfl rfl ?_
            repeat' (first | refine seqT_o rfl rfl rfl ?_ | (refine seqT_pd tok rfl rfl rfl rfl ?_ ?_ <;> intro e_) | refine seqT_p tok rfl rfl rfl rfl ?_)
            all_goals try (exfalso; omega)
            refine seqT_call _ Try.func88 rfl rfl rfl rfl (hcmp _) rfl rfl rfl ?_
            repeat' (first | (refine seqT_pd tok rfl rfl rfl rfl ?_ ?_ <;> intro e_) | refine seqT_p tok rfl rfl rfl rfl ?_)
            · rw [if_pos (by simp; omega)] at hfold
              refine SeqT.done ?_
              repeat' (first | refine aops_end ?_ | refine aops_endb ?_ | refine aops_a tok rfl (by omega) (by omega) rfl rfl rfl ?_ | refine aops_p tok rfl rfl rfl rfl ?_ | refine acode_it rfl ?_ | refine acode_region ?_ | refine then_n ?_)
              exact ⟨(i + 1, .nd a w q), ⟨by simp only; omega, hfold, hin _ (.inr rfl)⟩, by simp only; omega, ⟨rfl, rfl, by rw [pkA_nd]; rfl, rfl, rfl, rfl, trivial⟩, rfl⟩
            · rw [if_neg (by simp; omega)] at hfold
              refine SeqT.done ?_
              repeat' (first | refine aops_end ?_ | refine aops_a tok rfl (by omega) (by omega) rfl rfl rfl ?_ | refine aops_p tok rfl rfl rfl rfl ?_ | refine acode_if rfl ?_ | refine acode_region ?_ | refine acode_skip ?_ | refine then_n ?_ | refine block_n ?_)
              exact ⟨(i + 1, .nd a2 w q2), ⟨by simp only; omega, hfold, hin _ (.inl rfl)⟩, by simp only; omega, ⟨rfl, rfl, by rw [pkA_nd]; rfl, rfl, rfl, rfl, trivial⟩, rfl⟩
          · rw [if_pos (by simp; omega)] at hfold
            repeat' (first | refine aops_end ?_ | refine aops_p tok rfl rfl rfl rfl ?_ | refine acode_if rfl ?_ | refine acode_seq ?_ | refine acode_skip ?_ | refine then_n ?_)
            refine acode_drawT 30 mixed (by kernel_rfl) (by kernel_rfl) ?_
            repeat (refine seqT_p tok rfl rfl rfl rfl ?_)
            refine seqT_pz tok (b := false) rfl rfl rfl rfl rfl rfl ?_
            repeat' (first | refine seqT_o rfl rfl rfl ?_ | (refine seqT_pd tok rfl rfl rfl rfl ?_ ?_ <;> intro e_) | refine seqT_p tok rfl rfl rfl rfl ?_)
            all_goals try (exfalso; omega)
            refine SeqT.done ?_
            repeat' (first | refine aops_end ?_ | refine aops_endb ?_ | refine aops_a tok rfl (by omega) (by omega) rfl rfl rfl ?_ | refine aops_p tok rfl rfl rfl rfl ?_ | refine acode_it rfl ?_ | refine acode_region ?_ | refine then_n ?_)
            exact ⟨(i + 1, .nd a w q), ⟨by simp only; omega, hfold, hin _ (.inr rfl)⟩, by simp only; omega, ⟨rfl, rfl, by rw [pkA_nd]; rfl, rfl, rfl, rfl, trivial⟩, rfl⟩
  · obtain rfl : i = l.length := by omega
    rw [List.drop_length, List.foldl_nil] at hfold
    rw [← hfold]
    refine acode_exit ?_
    repeat (first | refine exit_then ?_ | refine exit_here ?_ | refine then_n ?_)
    cases out with
    | tk =>
      rw [show pkA .tk = .nilp from rfl]
      repeat (first | refine aops_end ?_ | refine aops_p tok rfl rfl rfl rfl ?_ | refine acode_seq ?_ | refine acode_region ?_)
      refine acode_ret ?_
      skip
      exact ⟨_, ⟨rfl, rfl⟩, resOf_tmp rfl⟩
    | nd a w q =>
      rw [pkA_nd]
      repeat (first | refine aops_end ?_ | refine aops_p tok rfl rfl rfl rfl ?_ | refine acode_seq ?_ | refine acode_region ?_)
      refine acode_ret ?_
      skip
      exact ⟨_, ⟨rfl, rfl⟩, resOf_tmp rfl⟩
end Go.Proofs.Ytbnhmioijeagiaa.Ab
/- Package choose: the pick of an Alt: the walk. No condition. -/
set_option linter.unusedVariables false
set_option linter.unusedSimpArgs false
namespace Go.Proofs.Ytbnhmioijeagiaa.Ab
attribute [local irreducible] thenA inBlockA ACode AOps put IntKind.wrap

theorem cnot_calls {g : Gr} {f : Fo} {ks : List (List Int)} {b bs b2 : Nat} {cells : List A} {M : List Ob} {a : Al} {p q : Int} (hs : SetOf g.forbid ks) :
    ACalls Try.prog 87 [.int .i64 q, .ref b2 0, .pp (alC a), .pp [.int .i64 p]] (chM g f ks b bs cells (⟨some b2, 1, [.ref b 0]⟩ :: M)) (fun x M' => x = .bool (mayP g.forbid a.rule p q) ∧ M' = chM g f ks b bs cells (⟨some b2, 1, [.ref b 0]⟩ :: M)) := by
  refine acalls_of_code 17 Try.func87 rfl rfl rfl ?_
  repeat (first | refine aops_end ?_ | refine aops_p tok rfl rfl rfl rfl ?_ | refine acode_seq ?_ | refine acode_region ?_)
  refine acode_drawT 11 mixed (by kernel_rfl) (by kernel_rfl) ?_
  refine seqT_ld tok 2 rfl rfl rfl rfl rfl rfl rfl rfl ?_
  repeat (first | refine seqT_p tok rfl rfl rfl rfl ?_ | refine seqT_ld tok 1 rfl rfl rfl rfl rfl rfl rfl rfl ?_)
  refine seqT_y (yields_look tok (k := l3 (a.rule, p, q)) rfl rfl rfl rfl hs.1 rfl rfl rfl) rfl ?_
  have hm : mayP g.forbid a.rule p q = !decide (l3 (a.rule, p, q) ∈ ks) := by
    unfold mayP
    by_cases h : (a.rule, p, q) ∈ g.forbid
    · rw [decide_eq_true h, decide_eq_true ((hs.2 (a.rule, p, q)).2 h)]
    · rw [decide_eq_false h, decide_eq_false (fun h2 => h ((hs.2 (a.rule, p, q)).1 h2))]
  repeat (refine seqT_p tok rfl rfl rfl rfl ?_)
  refine SeqT.done ?_
  repeat (first | refine aops_end ?_ | refine aops_p tok rfl rfl rfl rfl ?_)
  refine acode_ret ?_
  skip
  exact ⟨.bool (mayP g.forbid a.rule p q), ⟨rfl, rfl⟩, resOf_tmp (by rw [hm]; rfl)⟩
theorem goP_step {fb : List F3} {T : Nat → List Pk} {r : Int} {l : List Int} {p : Nat} {k w : Int} {ks : List Pk} (h : l[p]? = some k) : goP fb T r p (l.drop p) w ks = if k < 0 then goP fb T r (p + 1) (l.drop (p + 1)) w (ks ++ [.tk]) else
    if (bestF (mayP fb r p) (T k.toNat)).isTk then none else goP fb T r (p + 1) (l.drop (p + 1)) (w + (bestF (mayP fb r p) (T k.toNat)).wt) (ks ++ [bestF (mayP fb r p) (T k.toNat)]) := by
  have e : l.drop p = k :: l.drop (p + 1) := by
    obtain ⟨h1, rfl⟩ := List.getElem?_eq_some_iff.1 h
    exact List.drop_eq_getElem_cons h1
  rw [e]; rfl
theorem perm_front {a b c d e : Ob} {M : List Ob} : (a :: b :: c :: d :: e :: M).Perm (d :: e :: c :: a :: b :: M) := by
  refine (List.perm_append_comm_assoc [a, b, c] [d, e] M).trans ?_
  exact ((List.perm_middle (l₁ := [a, b]) (a := c) (l₂ := M)).append_left [d, e])
set_option maxHeartbeats 16000000 in
theorem calt_calls {g : Gr} {f : Fo} {ks : List (List Int)} {b bs : Nat} {cells : List A} {M : List Ob} {a : Al} {T : Nat → List Pk} (hs : SetOf g.forbid ks) (hal : a.kids.length ≤ 1000) (hdy : -1000000 ≤ dynF g a.rule ∧ dynF g a.rule ≤ 1000000)
    (hk : ∀ k : Nat, (k : Int) ∈ a.kids → k < f.nodes.length ∧ cells[k]? = some (.psl (T k).length (encs pk1 (T k))) ∧ (T k).length ≤ 9223372036854775807 ∧ DistB (T k) ∧ ∀ p ∈ T k, -1000000000000 ≤ p.wt ∧ p.wt ≤ 1000000000000) :
    ACalls Try.prog 51 [.ref b 0, .agg (alC a)] (chM g f ks b bs cells M) (fun x M' => x = pkA (altP g T a) ∧ M' = chM g f ks b bs cells M) := by
  obtain ⟨hd0, hd1⟩ := hdy
  refine acalls_of_code 67 Try.func51 rfl rfl rfl ?_
  repeat (first | refine acode_seq ?_ | refine acode_region ?_)
  refine aops_boxo rfl rfl rfl rfl rfl rfl rfl fun b2 => ?_
  refine aops_boxf rfl rfl rfl rfl rfl rfl rfl ?_
  repeat (first | refine aops_end ?_ | refine aops_p tok rfl rfl rfl rfl ?_ | refine acode_seq ?_)
  refine acode_drawP [⟨some b2, 1, [.ref b 0]⟩, ⟨some b, 11, grC g ++ foC f ++ [.mp ks, .own (some bs) f.nodes.length f.nodes.length]⟩] 11 [0, 1, 2, 3, 4, 5, 6, 7, 8, 9, 10] [9] mixed (by kernel_rfl) (by kernel_rfl) rfl ?_
  repeat (first | refine seqO_p tok rfl rfl rfl rfl rfl ?_ | refine seqO_ld tok 0 rfl rfl rfl rfl rfl (by simp) rfl rfl rfl rfl ?_ | refine seqO_ld tok 1 rfl rfl rfl rfl rfl (by simp) rfl rfl rfl rfl ?_)
  refine seqO_call _ rfl Try.func63 rfl rfl rfl rfl (fun M => dyn_calls M) rfl rfl rfl ?_
  generalize hw0 : dynF g a.rule = w0 at *
  repeat (refine seqO_p tok rfl rfl rfl rfl rfl ?_)
  refine seqO_boxo rfl rfl rfl rfl (by simp) rfl rfl rfl rfl fun b5 => ?_
  repeat (refine seqO_p tok rfl rfl rfl rfl rfl ?_)
  refine SeqO.done ?_
  refine aops_adoptF 3 rfl rfl ?_
  refine aops_perm (chM g f ks b bs cells (⟨some b2, 1, [.ref b 0]⟩ :: ⟨some b5, 4, [.int .i64 a.rule, .psl a.kids.length (ints a.kids), .int .i64 w0, .own none 0 0]⟩ :: ⟨none, 0, []⟩ :: M)) perm_front ?_
  repeat (first | refine aops_end ?_ | refine aops_p tok rfl rfl rfl rfl ?_ | refine acode_seq ?_ | refine acode_region ?_ | refine acode_block ?_)
  have hfin : goP g.forbid T a.rule 0 a.kids w0 [] = goP g.forbid T a.rule 0 a.kids w0 [] := rfl
  generalize hgo : goP g.forbid T a.rule 0 a.kids w0 [] = fin at hfin
  refine acode_loopS (ι := Nat × Int × List Pk × Option Nat × Nat) (fun q => [(2, .ref b2 0), (3, .pp (alC a)), (5, .ref b5 0), (20, .psl a.kids.length (ints a.kids)), (21, .int .i64 a.kids.length), (22, .int .i64 q.1)]) (fun q => chM g f ks b bs cells (⟨some b2, 1, [.ref b 0]⟩ :: ⟨some b5, 4, [.int .i64 a.rule, .psl a.kids.length (ints a.kids), .int .i64 q.2.1, .own q.2.2.2.1 q.1 q.2.2.2.2]⟩ :: ⟨q.2.2.2.1, q.2.2.2.2 * 1, encs pk1 q.2.2.1⟩ :: M)) (fun q => a.kids.length - q.1) (fun q => q.1 ≤ a.kids.length ∧ goP g.forbid T a.rule q.1 (a.kids.drop q.1) q.2.1 q.2.2.1 = fin ∧ q.2.2.1.length = q.1 ∧ -1000000 - q.1 * 1000000000000 ≤ q.2.1 ∧ q.2.1 ≤ 1000000 + q.1 * 1000000000000) (0, w0, [], none, 0) ⟨Nat.zero_le _, hgo, rfl, by simp only; omega, by simp only; omega⟩ ⟨rfl, rfl, rfl, rfl, rfl, rfl, trivial⟩ rfl ?_
  rintro ⟨p, w, dn, ob, cap⟩ ⟨hp, hfold, hdn, hw1, hw2⟩
  simp only at hp hfold hdn hw1 hw2 ⊢
  repeat (first | refine aops_end ?_ | refine aops_p tok rfl rfl rfl rfl ?_ | refine acode_seq ?_ | refine acode_region ?_)
  refine acode_id rfl (fun e => ?_) (fun e => ?_)
  · have hpl : p < a.kids.length := by omega
    obtain ⟨k, hkk⟩ : ∃ k, a.kids[p]? = some k := ⟨a.kids[p], List.getElem?_eq_getElem hpl⟩
    have hkm := List.mem_of_getElem? hkk
    rw [goP_step hkk] at hfold
    repeat (first | refine aops_p tok rfl rfl rfl rfl ?_ | refine acode_seq ?_ | refine acode_region ?_ | refine acode_block ?_ | refine acode_skip ?_ | refine then_n ?_)
    refine aops_ix tok [A.int .i64 k] rfl rfl rfl rfl (by omega) (by omega) (by simp) (ints_at (j := p) (by simpa using hkk)) rfl rfl rfl ?_
    repeat (refine aops_p tok rfl rfl rfl rfl ?_)
    refine aops_alloc tok rfl rfl rfl rfl rfl rfl fun b6 => ?_
    repeat (first | refine aops_p tok rfl rfl rfl rfl ?_ | refine aops_stn tok rfl rfl rfl rfl rfl rfl rfl rfl rfl ?_)
    refine aops_pubref0 6 rfl ?_
    by_cases hk0 : k < 0
    · rw [if_pos hk0] at hfold
      repeat' (first | refine aops_end ?_ | refine aops_pbt tok rfl (by first | omega | decide) rfl rfl rfl ?_ | refine aops_p tok rfl rfl rfl rfl ?_ | refine acode_it rfl ?_ | refine acode_seq ?_ | refine acode_region ?_)
      try any_goals (exfalso; omega)
      refine aops_ld tok 3 rfl rfl rfl rfl rfl rfl rfl rfl ?_
      refine aops_litn tok rfl rfl rfl rfl rfl rfl rfl ?_
      refine aops_append tok 4 (m := 1) (ds := pk1 .tk) rfl rfl rfl (.inl rfl) rfl rfl (by rw [encs_len pk1_len, hdn]) rfl rfl rfl (by show _ * 8 ≤ _; omega) (by omega) rfl rfl fun ob' cap' => ?_
      refine aops_put rfl ?_
      refine aops_somed 35 rfl (by omega) fun c hc => ?_
      subst hc
      repeat (refine aops_p tok rfl rfl rfl rfl ?_)
      refine aops_stk tok 3 [.int .i64 a.rule, .psl a.kids.length (ints a.kids), .int .i64 w, .own (some c) (p + 1) cap'] _ rfl rfl rfl rfl rfl rfl (show 3 + 1 ≤ 4 from by decide) rfl rfl rfl rfl ?_
      refine aops_end ?_
      refine acode_exit ?_
      repeat (first | refine exit_then ?_ | refine exit_here ?_ | refine then_n ?_)
      repeat (first | refine aops_end ?_ | refine aops_a tok rfl (by omega) (by omega) rfl rfl rfl ?_ | refine aops_p tok rfl rfl rfl rfl ?_ | refine acode_region ?_)
      refine ⟨(p + 1, w, dn ++ [.tk], some c, cap'), ⟨by simp only; omega, hfold, by simp [hdn], by simp only; omega, by simp only; omega⟩, by simp only; omega, ⟨rfl, rfl, rfl, rfl, rfl, rfl, trivial⟩, ?_⟩
      simp only [encs_app]
      rfl
    · obtain ⟨k', rfl⟩ := Int.eq_ofNat_of_zero_le (show 0 ≤ k by omega)
      rw [if_neg hk0, Int.toNat_natCast] at hfold
      obtain ⟨h1, h2, h3, h4, h5⟩ := hk k' hkm
      have hbc := cbest_calls (g := g) (f := f) (ks := ks) (b := b) (bs := bs) (cells := cells) (M := ⟨some b2, 1, [.ref b 0]⟩ :: ⟨some b5, 4, [.int .i64 a.rule, .psl a.kids.length (ints a.kids), .int .i64 w, .own ob p cap]⟩ :: ⟨ob, cap * 1, encs pk1 dn⟩ :: M) (k := k') (l := T k') (cf := 87) (cap := [.ref b2 0, .pp (alC a), .pp [.int .i64 p]]) (may := mayP g.forbid a.rule p) h1 h2 h3 h4 Try.func87 rfl (fun q _ _ => cnot_calls hs)
      have hbw : (bestF (mayP g.forbid a.rule p) (T k')).isTk = false → -1000000000000 ≤ (bestF (mayP g.forbid a.rule p) (T k')).wt ∧ (bestF (mayP g.forbid a.rule p) (T k')).wt ≤ 1000000000000 := fun h => h5 _ (best_in h).1
      generalize bestF (mayP g.forbid a.rule p) (T k') = B at *
      repeat' (first | refine aops_end ?_ | refine aops_pbf tok rfl (by first | omega | decide) rfl rfl rfl ?_ | refine aops_p tok rfl rfl rfl rfl ?_ | refine acode_if rfl ?_ | refine acode_seq ?_ | refine acode_region ?_ | refine acode_skip ?_ | refine then_n ?_)
      try any_goals (exfalso; omega)
      refine aops_ld tok 2 rfl rfl rfl rfl rfl rfl rfl rfl ?_
      repeat (refine aops_p tok rfl rfl rfl rfl ?_)
      refine aops_callx Try.func52 rfl rfl rfl rfl hbc rfl rfl rfl ?_
      cases B with
      | tk =>
        rw [show Pk.isTk .tk = true from rfl, if_pos rfl] at hfold
        rw [show pkA .tk = .nilp from rfl]
        repeat (first | refine aops_end ?_ | refine aops_p tok rfl rfl rfl rfl ?_ | refine acode_seq ?_ | refine acode_region ?_)
        refine aops_pz tok (b := true) rfl rfl rfl rfl rfl rfl ?_
        repeat' (first | refine aops_end ?_ | refine aops_p tok rfl rfl rfl rfl ?_ | refine acode_it rfl ?_ | refine acode_seq ?_ | refine acode_region ?_)
        refine acode_drop 2 (acode_drop 2 (acode_drop 2 ?_))
        refine acode_ret ?_
        repeat (first | refine ret_then ?_ | refine ret_block ?_)
        refine ⟨.nilp, ⟨?_, rfl⟩, resOf_tmp rfl⟩
        unfold altP
        rw [hw0, hgo, ← hfold]
        rfl
      | nd a2 w2 q2 =>
        rw [if_neg (by simp [Pk.isTk]), show (Pk.nd a2 w2 q2).wt = w2 from rfl] at hfold
        obtain ⟨hb1, hb2⟩ := hbw rfl
        rw [show (Pk.nd a2 w2 q2).wt = w2 from rfl] at hb1 hb2
        rw [pkA_nd]
        repeat (first | refine aops_end ?_ | refine aops_p tok rfl rfl rfl rfl ?_ | refine acode_seq ?_ | refine acode_region ?_)
        refine aops_pz tok (b := false) rfl rfl rfl rfl rfl rfl ?_
        repeat' (first | refine aops_end ?_ | refine acode_if rfl ?_ | refine acode_seq ?_ | refine acode_skip ?_ | refine then_n ?_)
        refine acode_drawP [⟨some b5, 4, [.int .i64 a.rule, .psl a.kids.length (ints a.kids), .int .i64 w, .own ob p cap]⟩] 11 [0, 1, 2, 3, 4, 5, 6, 7, 8, 9, 10] [] mixed (by kernel_rfl) (by kernel_rfl) rfl ?_
        repeat (first | refine seqO_a tok rfl rfl (by omega) (by omega) rfl rfl rfl ?_ | refine seqO_p tok rfl rfl rfl rfl rfl ?_ | refine seqO_ld tok 0 rfl rfl rfl rfl rfl (by simp) rfl rfl rfl rfl ?_)
        refine SeqO.done ?_
        refine aops_stk tok 3 [.int .i64 a.rule, .psl a.kids.length (ints a.kids), .int .i64 (w + w2), .own ob p cap] _ rfl rfl rfl rfl rfl rfl (show 2 + 1 ≤ 4 from by decide) rfl rfl rfl rfl ?_
        repeat (first | refine aops_end ?_ | refine aops_p tok rfl rfl rfl rfl ?_ | refine acode_region ?_)
        refine aops_ld tok 3 rfl rfl rfl rfl rfl rfl rfl rfl ?_
        repeat (refine aops_p tok rfl rfl rfl rfl ?_)
        refine aops_litn tok rfl rfl rfl rfl rfl rfl rfl ?_
        refine aops_append tok 4 (m := 1) (ds := [.cp [.int .i64 a2.rule, .psl a2.kids.length (ints a2.kids), .int .i64 w2, .psl q2.length (encs pk1 q2)]]) rfl rfl rfl (.inl rfl) rfl rfl (by rw [encs_len pk1_len, hdn]) rfl rfl rfl (by show _ * 8 ≤ _; omega) (by omega) rfl rfl fun ob' cap' => ?_
        refine aops_put rfl ?_
        refine aops_somed 62 rfl (by omega) fun c hc => ?_
        subst hc
        repeat (refine aops_p tok rfl rfl rfl rfl ?_)
        refine aops_stk tok 3 [.int .i64 a.rule, .psl a.kids.length (ints a.kids), .int .i64 (w + w2), .own (some c) (p + 1) cap'] _ rfl rfl rfl rfl rfl rfl (show 3 + 1 ≤ 4 from by decide) rfl rfl rfl rfl ?_
        repeat (first | refine aops_end ?_ | refine aops_endb ?_ | refine aops_a tok rfl (by omega) (by omega) rfl rfl rfl ?_ | refine aops_p tok rfl rfl rfl rfl ?_ | refine acode_region ?_ | refine then_n ?_)
        refine ⟨(p + 1, w + w2, dn ++ [.nd a2 w2 q2], some c, cap'), ⟨by simp only; omega, hfold, by simp [hdn], by simp only; omega, by simp only; omega⟩, by simp only; omega, ⟨rfl, rfl, rfl, rfl, rfl, rfl, trivial⟩, ?_⟩
        simp only [encs_app]
        rw [show encs pk1 [Pk.nd a2 w2 q2] = [pkA (.nd a2 w2 q2)] from rfl, pkA_nd]
        rfl
  · obtain rfl : p = a.kids.length := by omega
    rw [List.drop_length] at hfold
    have hfold : some (w, dn) = fin := hfold
    refine acode_exit ?_
    repeat (first | refine exit_then ?_ | refine exit_here ?_ | refine then_n ?_)
    refine acode_perm (⟨some b5, 4, [.int .i64 a.rule, .psl a.kids.length (ints a.kids), .int .i64 w, .own ob a.kids.length cap]⟩ :: ⟨ob, cap * 1, encs pk1 dn⟩ :: ⟨some bs, f.nodes.length * 1, cells⟩ :: ⟨some b, 11, grC g ++ foC f ++ [.mp ks, .own (some bs) f.nodes.length f.nodes.length]⟩ :: ⟨some b2, 1, [.ref b 0]⟩ :: M) ?_ ?_
    · exact List.perm_append_comm_assoc [_, _, _] [_, _] M
    refine acode_pubFld (sz := 1) 3 rfl rfl (by rw [encs_len pk1_len, hdn]) (by decide) rfl ?_
    refine acode_pubcp0 5 rfl (by simp) ?_
    repeat (first | refine aops_end ?_ | refine aops_p tok rfl rfl rfl rfl ?_ | refine acode_seq ?_ | refine acode_region ?_)
    refine acode_drop 2 ?_
    refine acode_ret ?_
    skip
    refine ⟨.cp [.int .i64 a.rule, .psl a.kids.length (ints a.kids), .int .i64 w, .psl a.kids.length (encs pk1 dn)], ⟨?_, rfl⟩, resOf_tmp rfl⟩
    unfold altP
    rw [hw0, hgo, ← hfold, pkA_nd, hdn]
end Go.Proofs.Ytbnhmioijeagiaa.Ab
/- Package choose: the tree of a pick: the walk. No condition. -/
set_option linter.unusedVariables false
set_option linter.unusedSimpArgs false
namespace Go.Proofs.Ytbnhmioijeagiaa.Ab
attribute [local irreducible] thenA inBlockA ACode AOps put IntKind.wrap

inductive PkOk : Pk → Prop
  | nd {a : Al} {w : Int} {ks : List Pk} (hl : ks.length = a.kids.length) (h8 : a.kids.length ≤ 1000) (hr : ∀ k ∈ a.kids, rng k) (hk : ∀ q ∈ ks, q.isTk = false → PkOk q) : PkOk (.nd a w ks)
def tree1 (k : Int) (q : Pk) : Tr := if q.isTk then leafT k else treeP q
theorem treesP_len : ∀ (l : List Int) (ks : List Pk), ks.length = l.length → (treesP l ks).length = ks.length
  | [], [], _ => rfl
  | [], _ :: _, h => by simp at h
  | _ :: _, [], h => by simp at h
  | k :: l, .tk :: ks, h => by rw [treesP, List.length_cons, treesP_len l ks (by simpa using h)]; rfl
  | k :: l, .nd a w q :: ks, h => by rw [treesP, List.length_cons, treesP_len l ks (by simpa using h)]; rfl
theorem treesP_at : ∀ {l : List Int} {ks : List Pk} {i : Nat} {k : Int} {q : Pk}, l[i]? = some k → ks[i]? = some q → (treesP l ks)[i]? = some (tree1 k q)
  | [], _, _, _, _, h, _ => by simp at h
  | _ :: _, [], _, _, _, _, h => by simp at h
  | k :: l, q :: ks, 0, k', q', h1, h2 => by
    simp at h1 h2
    subst h1; subst h2
    cases q <;> simp [treesP, tree1, Pk.isTk]
  | k :: l, .tk :: ks, i + 1, k', q', h1, h2 => by
    rw [treesP, List.getElem?_cons_succ]; exact treesP_at (by simpa using h1) (by simpa using h2)
  | k :: l, .nd a w q :: ks, i + 1, k', q', h1, h2 => by
    rw [treesP, List.getElem?_cons_succ]; exact treesP_at (by simpa using h1) (by simpa using h2)

set_option maxHeartbeats 16000000 in
theorem ctree_calls {p : Pk} (h : PkOk p) : ∀ (M : List Ob), ACalls Try.prog 54 [pkA p] M (fun x M' => x = trA (treeP p) ∧ M' = M) := by
  induction h with
  | @nd a w ks hl h8 hr hk ih =>
  intro M
  have hT : treeP (.nd a w ks) = .mk a.rule 0 (treesP a.kids ks) := by rw [treeP]
  have htl := treesP_len a.kids ks hl
  have hat := fun {i : Nat} {k : Int} {q : Pk} (h1 : a.kids[i]? = some k) (h2 : ks[i]? = some q) => treesP_at h1 h2
  rw [hT]
  generalize treesP a.kids ks = ts at *
  rw [pkA_nd]
  show ACalls Try.prog 54 _ M (fun x M' => x = .agg [.int .i64 a.rule, .int .i64 0, .psl ts.length (encs trC ts)] ∧ M' = M)
  refine acalls_of_code 47 Try.func54 rfl rfl rfl ?_
  repeat (first | refine acode_seq ?_ | refine acode_region ?_)
  refine aops_alloc tok rfl rfl rfl rfl rfl rfl fun br => ?_
  repeat (first | refine aops_end ?_ | refine aops_p tok rfl rfl rfl rfl ?_ | refine acode_seq ?_ | refine acode_region ?_)
  refine aops_alloc tok rfl rfl rfl rfl rfl rfl fun bt => ?_
  repeat (refine aops_stn tok rfl rfl rfl rfl rfl rfl rfl rfl rfl ?_)
  refine aops_adoptF 2 rfl rfl ?_
  repeat (first | refine aops_end ?_ | refine aops_p tok rfl rfl rfl rfl ?_ | refine acode_seq ?_ | refine acode_region ?_ | refine acode_block ?_)
  refine acode_loopS (ι := Nat × Option Nat × Nat) (fun q => [(0, .cp [.int .i64 a.rule, .psl a.kids.length (ints a.kids), .int .i64 w, .psl ks.length (encs pk1 ks)]), (2, .ref br 0), (3, .ref bt 0), (15, .psl ks.length (encs pk1 ks)), (16, .int .i64 ks.length), (17, .int .i64 q.1)]) (fun q => ⟨some bt, 3, [.int .i64 a.rule, .int .i64 0, .own q.2.1 q.1 q.2.2]⟩ :: ⟨q.2.1, q.2.2 * 3, encs trC (ts.take q.1)⟩ :: ⟨some br, 3, [.int .i64 0, .int .i64 0, .nils]⟩ :: M) (fun q => ks.length - q.1) (fun q => q.1 ≤ ks.length) (0, none, 0) (Nat.zero_le _) ⟨rfl, rfl, rfl, rfl, rfl, rfl, trivial⟩ rfl ?_
  rintro ⟨i, ob, cap⟩ hi
  simp only at hi ⊢
  repeat (first | refine aops_end ?_ | refine aops_p tok rfl rfl rfl rfl ?_ | refine acode_seq ?_ | refine acode_region ?_)
  refine acode_id rfl (fun e => ?_) (fun e => ?_)
  · have hil : i < ks.length := by omega
    obtain ⟨q, hq⟩ : ∃ q, ks[i]? = some q := ⟨ks[i], List.getElem?_eq_getElem hil⟩
    obtain ⟨k, hkk⟩ : ∃ k, a.kids[i]? = some k := ⟨a.kids[i]'(by omega), List.getElem?_eq_getElem (by omega)⟩
    have hqm := List.mem_of_getElem? hq
    have hta := hat hkk hq
    have htk : ts.take (i + 1) = ts.take i ++ [tree1 k q] := by rw [List.take_add_one, hta]; rfl
    have hqa := encs_at (e := pk1) (s := 1) (fun _ => rfl) (i := (i : Int).toNat) (by simpa using hq)
    repeat (first | refine aops_p tok rfl rfl rfl rfl ?_ | refine acode_seq ?_ | refine acode_region ?_ | refine acode_block ?_ | refine acode_skip ?_ | refine then_n ?_)
    refine aops_ix tok [pkA q] rfl rfl rfl rfl (by omega) (by omega) (by simp) hqa rfl rfl rfl ?_
    cases q with
    | tk =>
      rw [show tree1 k .tk = leafT k from rfl] at htk
      rw [show pkA .tk = .nilp from rfl]
      repeat (first | refine aops_end ?_ | refine aops_p tok rfl rfl rfl rfl ?_ | refine acode_seq ?_ | refine acode_region ?_)
      refine aops_pz tok (b := true) rfl rfl rfl rfl rfl rfl ?_
      repeat' (first | refine aops_end ?_ | refine acode_it rfl ?_ | refine acode_seq ?_)
      refine acode_drawP [⟨some bt, 3, [.int .i64 a.rule, .int .i64 0, .own ob i cap]⟩] 14 [0, 1, 2, 3, 4, 5, 6, 7, 8, 9, 10, 11, 12, 13] [12] mixed (by kernel_rfl) (by kernel_rfl) rfl ?_
      repeat (first | refine seqO_p tok rfl rfl rfl rfl rfl ?_ | refine seqO_ld tok 0 rfl rfl rfl rfl rfl (by simp) rfl rfl rfl rfl ?_)
      refine seqO_ix tok [A.int .i64 k] rfl rfl rfl rfl rfl (by omega) (by omega) (by simp) (ints_at (j := i) (by simpa using hkk)) rfl rfl rfl ?_
      repeat (refine seqO_p tok rfl rfl rfl rfl rfl ?_)
      refine seqO_call _ rfl Try.func89 rfl rfl rfl rfl (fun M => leaf_calls (hr k (List.mem_of_getElem? hkk)) M) rfl rfl rfl ?_
      refine seqO_lit tok rfl rfl rfl rfl rfl rfl rfl rfl rfl ?_
      refine seqO_app tok 1 (m := 1) (ds := trC (leafT k)) rfl rfl rfl rfl (.inl (by rw [trC_eq]; rfl)) rfl rfl (by rw [encs_len trC_len, List.length_take, Nat.min_eq_left (by omega)]) (by rw [trC_len]; rfl) (by rw [trC_eq]; rfl) rfl (by show _ * 40 ≤ _; omega) (by omega) (by intro y o ho; simp at ho ⊢; simp [ho]) rfl rfl rfl fun ob' cap' => ?_
      repeat (refine seqO_p tok rfl rfl rfl rfl rfl ?_)
      refine SeqO.done ?_
      refine aops_somed 36 rfl (by omega) fun c hc => ?_
      subst hc
      refine aops_stk tok 0 [.int .i64 a.rule, .int .i64 0, .own (some c) (i + 1) cap'] _ rfl rfl rfl rfl rfl rfl (show 2 + 1 ≤ 3 from by decide) rfl rfl rfl rfl ?_
      refine aops_end ?_
      refine acode_exit ?_
      repeat (first | refine exit_then ?_ | refine exit_here ?_ | refine then_n ?_)
      repeat (first | refine aops_end ?_ | refine aops_a tok rfl (by omega) (by omega) rfl rfl rfl ?_ | refine aops_p tok rfl rfl rfl rfl ?_ | refine acode_region ?_)
      refine ⟨(i + 1, some c, cap'), by simp only; omega, by simp only; omega, ⟨rfl, rfl, rfl, rfl, rfl, rfl, trivial⟩, ?_⟩
      simp only [htk, encs_app]
      rw [show encs trC [leafT k] = trC (leafT k) by simp [encs]]
      rfl
    | nd a2 w2 q2 =>
      have hc := ih _ hqm rfl
      rw [show tree1 k (.nd a2 w2 q2) = treeP (.nd a2 w2 q2) from rfl] at htk
      rw [pkA_nd] at hc ⊢
      generalize treeP (.nd a2 w2 q2) = t at *
      repeat (first | refine aops_end ?_ | refine aops_p tok rfl rfl rfl rfl ?_ | refine acode_seq ?_ | refine acode_region ?_)
      refine aops_pz tok (b := false) rfl rfl rfl rfl rfl rfl ?_
      repeat' (first | refine aops_end ?_ | refine acode_if rfl ?_ | refine acode_skip ?_ | refine then_n ?_)
      refine acode_drawP [⟨some bt, 3, [.int .i64 a.rule, .int .i64 0, .own ob i cap]⟩] 7 [0, 1, 2, 3, 4, 5, 6] [5] mixed (by kernel_rfl) (by kernel_rfl) rfl ?_
      repeat (first | refine seqO_p tok rfl rfl rfl rfl rfl ?_ | refine seqO_ld tok 0 rfl rfl rfl rfl rfl (by simp) rfl rfl rfl rfl ?_)
      refine seqO_call _ rfl Try.func54 rfl rfl rfl rfl (fun M => hc M) rfl rfl rfl ?_
      refine seqO_lit tok rfl rfl rfl rfl rfl rfl rfl rfl rfl ?_
      refine seqO_app tok 1 (m := 1) (ds := trC t) rfl rfl rfl rfl (.inl (by rw [trC_eq]; rfl)) rfl rfl (by rw [encs_len trC_len, List.length_take, Nat.min_eq_left (by omega)]) (by rw [trC_len]; rfl) (by rw [trC_eq]; rfl) rfl (by show _ * 40 ≤ _; omega) (by omega) (by intro y o ho; simp at ho ⊢; simp [ho]) rfl rfl rfl fun ob' cap' => ?_
      repeat (refine seqO_p tok rfl rfl rfl rfl rfl ?_)
      refine SeqO.done ?_
      refine aops_somed 43 rfl (by omega) fun c hc => ?_
      subst hc
      refine aops_stk tok 0 [.int .i64 a.rule, .int .i64 0, .own (some c) (i + 1) cap'] _ rfl rfl rfl rfl rfl rfl (show 2 + 1 ≤ 3 from by decide) rfl rfl rfl rfl ?_
      repeat (first | refine aops_end ?_ | refine aops_endb ?_ | refine aops_a tok rfl (by omega) (by omega) rfl rfl rfl ?_ | refine aops_p tok rfl rfl rfl rfl ?_ | refine acode_region ?_ | refine then_n ?_)
      refine ⟨(i + 1, some c, cap'), by simp only; omega, by simp only; omega, ⟨rfl, rfl, rfl, rfl, rfl, rfl, trivial⟩, ?_⟩
      simp only [htk, encs_app]
      rw [show encs trC [t] = trC t by simp [encs]]
      rfl
  · obtain rfl : i = ks.length := by omega
    rw [List.take_of_length_le (by omega : ts.length ≤ ks.length)]
    refine acode_exit ?_
    repeat (first | refine exit_then ?_ | refine exit_here ?_ | refine then_n ?_)
    refine acode_pubFld (sz := 3) 2 rfl rfl (by rw [encs_len trC_len, htl]) (by decide) rfl ?_
    refine acode_pubref0 3 rfl ?_
    repeat (first | refine aops_end ?_ | refine aops_p tok rfl rfl rfl rfl ?_ | refine aops_stn tok rfl rfl rfl rfl rfl rfl rfl rfl rfl ?_ | refine acode_seq ?_ | refine acode_region ?_)
    refine acode_pubref0 2 rfl ?_
    refine acode_ret ?_
    skip
    exact ⟨.agg [.int .i64 a.rule, .int .i64 0, .psl ts.length (encs trC ts)], ⟨rfl, rfl⟩, resOf_pp tok rfl rfl (by rw [htl]; rfl)⟩
end Go.Proofs.Ytbnhmioijeagiaa.Ab
/- Package choose: Best, where no two picks of a node weigh the same: the walk. No condition. -/
set_option linter.unusedVariables false
set_option linter.unusedSimpArgs false
namespace Go.Proofs.Ytbnhmioijeagiaa.Ab
attribute [local irreducible] thenA inBlockA ACode AOps put IntKind.wrap

theorem goP_kids {fb : List F3} {T : Nat → List Pk} {r : Int} : ∀ {l : List Int} {p : Nat} {w : Int} {ks : List Pk} {w' : Int} {ks' : List Pk}, goP fb T r p l w ks = some (w', ks') → ks'.length = ks.length + l.length ∧ ∀ q ∈ ks', q ∈ ks ∨ q.isTk = true ∨ ∃ k : Nat, (k : Int) ∈ l ∧ q ∈ T k
  | [], p, w, ks, w', ks', h => by
    simp only [goP, Option.some.injEq, Prod.mk.injEq] at h
    obtain ⟨_, rfl⟩ := h
    exact ⟨by simp, fun q hq => .inl hq⟩
  | k :: l, p, w, ks, w', ks', h => by
    simp only [goP] at h
    split at h
    · obtain ⟨h1, h2⟩ := goP_kids h
      refine ⟨by rw [h1]; simp; omega, fun q hq => ?_⟩
      rcases h2 q hq with h3 | h3 | ⟨k', h3, h4⟩
      · rcases List.mem_append.1 h3 with h5 | h5
        · exact .inl h5
        · rw [List.mem_singleton.1 h5]; exact .inr (.inl rfl)
      · exact .inr (.inl h3)
      · exact .inr (.inr ⟨k', by simp [h3], h4⟩)
    · rename_i hk0
      split at h
      · cases h
      · rename_i hb
        obtain ⟨h1, h2⟩ := goP_kids h
        refine ⟨by rw [h1]; simp; omega, fun q hq => ?_⟩
        rcases h2 q hq with h3 | h3 | ⟨k', h3, h4⟩
        · rcases List.mem_append.1 h3 with h5 | h5
          · exact .inl h5
          · rw [List.mem_singleton.1 h5]
            exact .inr (.inr ⟨k.toNat, by rw [Int.toNat_of_nonneg (by omega)]; simp, (best_in (by simpa using hb)).1⟩)
        · exact .inr (.inl h3)
        · exact .inr (.inr ⟨k', by simp [h3], h4⟩)
theorem pk_ok {g : Gr} {f : Fo} (h8 : ∀ i, ∀ a ∈ altsOf f i, a.kids.length ≤ 1000 ∧ ∀ k ∈ a.kids, rng k) {i : Nat} (hw : WF f i) : ∀ p ∈ pkT g f i, p.isTk = false → PkOk p := by
  induction hw with
  | @mk i hi hk hs ih =>
    intro p hp hpt
    rw [pkT_eq (.mk hi hk hs)] at hp
    obtain ⟨a, ha, rfl⟩ := List.mem_map.1 hp
    obtain ⟨h1, h2⟩ := h8 i a ha
    unfold altP at hpt ⊢
    cases hgo : goP g.forbid (pkT g f) a.rule 0 a.kids (dynF g a.rule) [] with
    | none => rw [hgo] at hpt; cases hpt
    | some x =>
      obtain ⟨w, ks⟩ := x
      obtain ⟨h3, h4⟩ := goP_kids hgo
      refine .nd (by simpa using h3) h1 h2 fun q hq hqt => ?_
      rcases h4 q hq with h5 | h5 | ⟨k, h5, h6⟩
      · cases h5
      · rw [h5] at hqt; cases hqt
      · exact ih k ⟨a, ha, h5⟩ q h6 hqt
theorem cellsP_out {T : Nat → List Pk} {n : Nat} {l : List Nat} {j : Nat} (hj : j < n) (h : j ∉ l) : (cellsP T n l)[j]? = some .nils := by
  simp [cellsP, List.getElem?_range hj, h]
theorem cellsP_add {T : Nat → List Pk} {n : Nat} {l : List Nat} {j : Nat} : (cellsP T n l).set j (.psl (T j).length (encs pk1 (T j))) = cellsP T n (l ++ [j]) := by
  refine List.ext_getElem? fun k => ?_
  rw [List.getElem?_set]
  by_cases hk : k < n
  · by_cases h : j = k
    · subst h
      rw [if_pos rfl, cellsP_len, if_pos hk, cellsP_in hk (by simp)]
    · have : k ≠ j := fun e => h e.symm
      rw [if_neg h]
      by_cases hl : k ∈ l
      · rw [cellsP_in hk hl, cellsP_in hk (by simp [hl])]
      · rw [cellsP_out hk hl, cellsP_out hk (by simp [hl, this])]
  · have e1 : (cellsP T n l)[k]? = none := List.getElem?_eq_none (by rw [cellsP_len]; omega)
    have e2 : (cellsP T n (l ++ [j]))[k]? = none := List.getElem?_eq_none (by rw [cellsP_len]; omega)
    rw [e1, e2, cellsP_len]
    by_cases h : j = k
    · rw [if_pos h, if_neg (by omega)]
    · rw [if_neg h]
theorem cellsP_nil (T : Nat → List Pk) (n : Nat) : cellsP T n [] = List.replicate n .nils := by
  unfold cellsP
  simp only [List.not_mem_nil, if_false]
  rw [List.map_const', List.length_range]
theorem cset_at {cells : List A} {i k : Nat} {x y : A} (h : cells[k]? = some y) (hne : i ≠ k) : (cells.set i x)[k]? = some y := by
  rw [List.getElem?_set, if_neg hne]; exact h
theorem cset_same {cells : List A} {i : Nat} {x : A} (h : i < cells.length) : (cells.set i x)[i]? = some x := by
  rw [List.getElem?_set, if_pos rfl, if_pos h]
theorem ctopo_next {f : Fo} {l : List Nat} (ht : Topo f l) {p i : Nat} (h : l[p]? = some i) : i ∉ l.take p ∧ ∀ k : Nat, Kid f i k → k ∈ l.take p := by
  have e : l = l.take p ++ i :: l.drop (p + 1) := by
    obtain ⟨h1, h2⟩ := List.getElem?_eq_some_iff.1 h
    rw [← h2, ← List.drop_eq_getElem_cons h1, List.take_append_drop]
  exact (ht.pre e).2
theorem cnums_at {l : List Nat} {p i : Nat} (h : l[p]? = some i) : (nums l)[p]? = some (i : Int) := by simp [nums, h]
theorem all1_calls {r : Int} (M : List Ob) : ACalls Try.prog 53 ([.int .i64 r] ++ []) M (fun x M' => x = .bool ((fun _ => true) r) ∧ M' = M) := by
  refine acalls_of_code 3 Try.func53 rfl rfl rfl ?_
  repeat (first | refine aops_end ?_ | refine aops_p tok rfl rfl rfl rfl ?_ | refine acode_seq ?_ | refine acode_region ?_)
  refine acode_ret ?_
  skip
  exact ⟨_, ⟨rfl, rfl⟩, resOf_tmp rfl⟩
abbrev noP : A := .agg [.int .i64 0, .int .i64 0, .nils]
/-- A forest that is none has no best tree. -/
theorem chbest_none {g : Gr} {f : Fo} (hf : FoOk f) (hF : ¬ FForm f) (M : List Ob) : ACalls Try.prog 18 [grA g, foA f] M (fun x M' => x = .tup [noP, .int .i64 1] ∧ M' = M) := by
  refine acalls_of_code 89 Try.func18 rfl rfl rfl ?_
  repeat (first | refine acode_seq ?_ | refine acode_region ?_)
  refine aops_boxf rfl rfl rfl rfl rfl rfl rfl ?_
  refine aops_boxf rfl rfl rfl rfl rfl rfl rfl ?_
  refine aops_alloc tok rfl rfl rfl rfl rfl rfl fun br => ?_
  repeat (first | refine aops_end ?_ | refine aops_p tok rfl rfl rfl rfl ?_ | refine acode_seq ?_ | refine acode_region ?_)
  refine aops_call Try.func47 rfl rfl rfl rfl (order_calls hf _) rfl rfl ?_
  rintro x M' ⟨hM, hx⟩
  rw [hM]
  rcases hx with ⟨h, _⟩ | ⟨_, rfl⟩
  · exact absurd h hF
  repeat' (first | refine aops_put rfl ?_ | refine aops_end ?_ | refine aops_o rfl rfl rfl ?_ | refine aops_p tok rfl rfl rfl rfl ?_ | refine acode_it rfl ?_ | refine aops_stn tok rfl rfl rfl rfl rfl rfl rfl rfl rfl ?_ | refine acode_seq ?_ | refine acode_region ?_)
  refine acode_pubref0 4 rfl ?_
  refine acode_ret ?_
  repeat (refine ret_then ?_)
  exact ⟨_, ⟨rfl, rfl⟩, _, _, rfl, resOf_pp tok rfl rfl rfl, resOf_tmp rfl⟩
/-- What Best answers of a forest that is a grammar's. -/
noncomputable def bestR (g : Gr) (f : Fo) : A := if (bestF (fun _ => true) (pkT g f f.root.toNat)).isTk then .tup [noP, .int .i64 11] else .tup [trA (treeP (bestF (fun _ => true) (pkT g f f.root.toNat))), .int .i64 0]
set_option maxHeartbeats 32000000 in
theorem chbest_calls {g : Gr} {f : Fo} (hg : GrOk g) (hfo : (formF g).2 = 0) (hf : FoOk f) (hF : FForm f) (hwh : wholeB g f = true) (h8 : ∀ i, ∀ a ∈ altsOf f i, (a.kids.length ≤ 1000 ∧ ∀ k ∈ a.kids, rng k) ∧ -1000000 ≤ dynF g a.rule ∧ dynF g a.rule ≤ 1000000)
    (hD : ∀ i, i < f.nodes.length → DistB (pkT g f i) ∧ ∀ p ∈ pkT g f i, -1000000000000 ≤ p.wt ∧ p.wt ≤ 1000000000000) (M : List Ob) :
    ACalls Try.prog 18 [grA g, foA f] M (fun x M' => x = bestR g f ∧ M' = M) := by
  obtain ⟨hf1, hf2⟩ := id hf
  obtain ⟨⟨h0, h1⟩, hw⟩ := id hF
  have hgc := good_calls hg
  rw [decide_eq_true hfo] at hgc
  have hwc := chwhole_calls hg hf hF
  rw [hwh] at hwc
  refine acalls_of_code 89 Try.func18 rfl rfl rfl ?_
  repeat (first | refine acode_seq ?_ | refine acode_region ?_)
  refine aops_boxf rfl rfl rfl rfl rfl rfl rfl ?_
  refine aops_boxf rfl rfl rfl rfl rfl rfl rfl ?_
  refine aops_alloc tok rfl rfl rfl rfl rfl rfl fun br => ?_
  repeat (first | refine aops_end ?_ | refine aops_p tok rfl rfl rfl rfl ?_ | refine acode_seq ?_ | refine acode_region ?_)
  refine aops_call Try.func47 rfl rfl rfl rfl (order_calls hf _) rfl rfl ?_
  rintro x M' ⟨hM, hx⟩
  rw [hM]
  rcases hx with ⟨_, l, rfl, ht, hall⟩ | ⟨h, _⟩
  rotate_left
  · exact absurd hF h
  have hs := setF_of g.forbid
  repeat (first | refine aops_put rfl ?_ | refine aops_end ?_ | refine aops_p tok rfl rfl rfl rfl ?_ | refine acode_seq ?_ | refine acode_region ?_)
  refine aops_callx Try.func48 rfl rfl rfl rfl (hgc _) rfl rfl rfl ?_
  repeat (refine aops_p tok rfl rfl rfl rfl ?_)
  refine aops_callx Try.func49 rfl rfl rfl rfl (hwc _) rfl rfl rfl ?_
  repeat' (first | refine aops_end ?_ | refine aops_p tok rfl rfl rfl rfl ?_ | refine acode_if rfl ?_ | refine acode_seq ?_ | refine acode_skip ?_ | refine then_n ?_)
  refine acode_drawP [] 11 [0, 1, 2, 3, 4, 5, 6, 7, 8, 9, 10] [7, 9] mixed (by kernel_rfl) (by kernel_rfl) rfl ?_
  repeat (refine seqO_p tok rfl rfl rfl rfl rfl ?_)
  refine seqO_call _ rfl Try.func50 rfl rfl rfl rfl (fun M' => fset_calls (by have := hg.fo; omega) M') rfl rfl rfl ?_
  generalize setF g.forbid = ks at *
  repeat (refine seqO_p tok rfl rfl rfl rfl rfl ?_)
  refine seqO_mk tok f.nodes.length rfl rfl rfl rfl rfl rfl rfl (by show _ * 24 ≤ _; omega) (by omega) (by simp) rfl rfl rfl fun bs => ?_
  repeat (refine seqO_p tok rfl rfl rfl rfl rfl ?_)
  refine seqO_boxo rfl rfl rfl rfl (by simp) rfl rfl rfl rfl fun b => ?_
  repeat (refine seqO_p tok rfl rfl rfl rfl rfl ?_)
  refine SeqO.done ?_
  skip
  refine aops_end ?_
  refine acode_perm (chM g f ks b bs (cellsP (pkT g f) f.nodes.length []) (⟨some br, 3, [.int .i64 0, .int .i64 0, .nils]⟩ :: M)) (by rw [cellsP_nil, ← zerosA_one]; exact List.Perm.swap _ _ _) ?_
  repeat (first | refine aops_end ?_ | refine aops_p tok rfl rfl rfl rfl ?_ | refine acode_seq ?_ | refine acode_region ?_ | refine acode_block ?_)
  have htl := ht.len
  refine acode_loopS (ι := Nat) (fun p => [(3, .pp (foC f)), (4, .ref br 0), (8, .ref b 0), (43, .psl l.length (ints (nums l))), (44, .int .i64 l.length), (45, .int .i64 p)]) (fun p => chM g f ks b bs (cellsP (pkT g f) f.nodes.length (l.take p)) (⟨some br, 3, [.int .i64 0, .int .i64 0, .nils]⟩ :: M)) (fun p => l.length - p) (fun p => p ≤ l.length) 0 (Nat.zero_le _) ⟨rfl, rfl, rfl, rfl, rfl, rfl, trivial⟩ rfl ?_
  intro p hp
  repeat (first | refine aops_end ?_ | refine aops_p tok rfl rfl rfl rfl ?_ | refine acode_seq ?_ | refine acode_region ?_)
  refine acode_id rfl (fun e => ?_) (fun e => ?_)
  · have hpl : p < l.length := by omega
    obtain ⟨i, hpi⟩ : ∃ i, l[p]? = some i := ⟨l[p], List.getElem?_eq_getElem hpl⟩
    have hwf := ht.wf i (List.mem_of_getElem? hpi)
    obtain ⟨hni, hkids⟩ := ctopo_next ht hpi
    have hlw : ∀ k ∈ l.take p, WF f k := fun k hk => ht.wf k (List.mem_of_mem_take hk)
    have htk : l.take (p + 1) = l.take p ++ [i] := by rw [List.take_add_one, hpi]; rfl
    have hi := hwf.lt
    obtain ⟨nd, hnd, hndm, hal⟩ := nodes_at hi
    obtain ⟨hal1, hal2⟩ := hf2 nd hndm
    have hT := pkT_eq (g := g) hwf
    have hTl := pkT_len (g := g) hwf
    unfold rowP at hT
    rw [hal] at hT hTl
    have hcl := cellsP_len (pkT g f) f.nodes.length (l.take p)
    have hin : ∀ k : Nat, k ∈ l.take p → (cellsP (pkT g f) f.nodes.length (l.take p))[k]? = some (.psl (pkT g f k).length (encs pk1 (pkT g f k))) := fun k hk => cellsP_in (hlw k hk).lt hk
    have hout := cellsP_out (T := pkT g f) hi hni
    have hadd := cellsP_add (T := pkT g f) (n := f.nodes.length) (l := l.take p) (j := i)
    rw [← htk] at hadd
    generalize cellsP (pkT g f) f.nodes.length (l.take p) = cells at *
    have h8i := h8 i
    rw [hal] at h8i
    have hkx : ∀ a ∈ nd.alts, ∀ k : Nat, (k : Int) ∈ a.kids → k < f.nodes.length ∧ k ≠ i ∧ cells[k]? = some (.psl (pkT g f k).length (encs pk1 (pkT g f k))) ∧ (pkT g f k).length ≤ 9223372036854775807 ∧ DistB (pkT g f k) ∧ ∀ p ∈ pkT g f k, -1000000000000 ≤ p.wt ∧ p.wt ≤ 1000000000000 := by
      intro a ha k hk
      have hkl := hkids k ⟨a, by rw [hal]; exact ha, hk⟩
      have hkw := hlw k hkl
      refine ⟨hkw.lt, fun e => hni (e ▸ hkl), hin k hkl, ?_, (hD k hkw.lt).1, (hD k hkw.lt).2⟩
      rw [pkT_len hkw]
      obtain ⟨nk, _, hnkm, halk⟩ := nodes_at hkw.lt
      rw [halk]
      have := (hf2 nk hnkm).1
      omega
    generalize hti : pkT g f i = ti at *
    repeat (first | refine acode_seq ?_ | refine acode_region ?_ | refine acode_block ?_ | refine acode_skip ?_ | refine then_n ?_)
    refine aops_ix tok [A.int .i64 i] rfl rfl rfl rfl (by omega) (by omega) (by simp) (ints_at (j := p) (by simpa using cnums_at hpi)) rfl rfl rfl ?_
    repeat (first | refine aops_end ?_ | refine aops_p tok rfl rfl rfl rfl ?_ | refine acode_seq ?_ | refine acode_region ?_)
    refine aops_ix tok (ndC nd) rfl rfl rfl rfl (by omega) (by omega) (by simp [ndC]) (nd_at hnd) rfl rfl rfl ?_
    repeat (first | refine aops_end ?_ | refine aops_p tok rfl rfl rfl rfl ?_ | refine acode_block ?_)
    refine acode_adoptF i hout (normL_eq _) ?_
    refine acode_swap1 ?_
    refine acode_loopS (ι := Nat × Option Nat × Nat) (fun q => [(3, .pp (foC f)), (4, .ref br 0), (8, .ref b 0), (10, .int .i64 i), (43, .psl l.length (ints (nums l))), (44, .int .i64 l.length), (45, .int .i64 p), (54, .psl nd.alts.length (encs alC nd.alts)), (55, .int .i64 nd.alts.length), (56, .int .i64 q.1)])
      (fun q => chM g f ks b bs (cells.set i (.own q.2.1 q.1 q.2.2)) (⟨q.2.1, q.2.2 * 1, encs pk1 (ti.take q.1)⟩ :: ⟨some br, 3, [.int .i64 0, .int .i64 0, .nils]⟩ :: M)) (fun q => nd.alts.length - q.1) (fun q => q.1 ≤ nd.alts.length ∧ (q.1 = 0 ∧ q.2.1 = none ∧ q.2.2 = 0 ∨ ∃ c, q.2.1 = some c)) (0, none, 0) ⟨Nat.zero_le _, .inl ⟨rfl, rfl, rfl⟩⟩ ⟨rfl, rfl, rfl, rfl, rfl, rfl, rfl, rfl, rfl, rfl, trivial⟩ rfl ?_
    rintro ⟨q, ob, cap⟩ ⟨hq, hob⟩
    simp only at hq hob ⊢
    repeat (first | refine aops_end ?_ | refine aops_p tok rfl rfl rfl rfl ?_ | refine acode_seq ?_ | refine acode_region ?_)
    refine acode_id rfl (fun e2 => ?_) (fun e2 => ?_)
    · have hql : q < nd.alts.length := by omega
      obtain ⟨a, ha⟩ : ∃ a, nd.alts[q]? = some a := ⟨nd.alts[q], List.getElem?_eq_getElem hql⟩
      have ham := List.mem_of_getElem? ha
      obtain ⟨⟨ha8, har⟩, hdy⟩ := h8i a ham
      have htq : ti[q]? = some (altP g (pkT g f) a) := by rw [hT, List.getElem?_map, ha]; rfl
      have htkq : ti.take (q + 1) = ti.take q ++ [altP g (pkT g f) a] := by rw [List.take_add_one, htq]; rfl
      have hset : ∀ x, (cells.set i (.own ob q cap)).take (i * 1) ++ ([x] ++ (cells.set i (.own ob q cap)).drop (i * 1 + 1)) = cells.set i x := fun x => by
        rw [Nat.mul_one]
        have := List.set_eq_take_append_cons_drop (l := cells.set i (.own ob q cap)) (i := i) (a := x)
        rw [List.set_set, List.length_set, if_pos (by rw [hcl]; exact hi)] at this
        rw [this]; rfl
      have hcur := cset_same (x := A.own ob q cap) (show i < cells.length by rw [hcl]; exact hi)
      have hcl2 : (cells.set i (.own ob q cap)).length = f.nodes.length := by rw [List.length_set, hcl]
      have htlq : (ti.take q).length = q := by rw [List.length_take]; omega
      have hac := calt_calls (g := g) (f := f) (ks := ks) (b := b) (bs := bs) (cells := cells.set i (.own ob q cap)) (M := ⟨ob, cap * 1, encs pk1 (ti.take q)⟩ :: ⟨some br, 3, [.int .i64 0, .int .i64 0, .nils]⟩ :: M) (a := a) (T := pkT g f) hs ha8 hdy (fun k hk => by
        obtain ⟨x1, x2, x3, x4, x5, x6⟩ := hkx a ham k hk
        exact ⟨x1, cset_at x3 (fun e => x2 e.symm), x4, x5, x6⟩)
      obtain ⟨y, hy1, hy2⟩ : ∃ y, pkA (altP g (pkT g f) a) = y ∧ (y = .nilp ∨ ∃ cs, y = .cp cs) := by
        cases altP g (pkT g f) a with
        | tk => exact ⟨_, rfl, .inl rfl⟩
        | nd a2 w2 q2 => exact ⟨_, rfl, .inr ⟨_, pkA_nd _ _ _⟩⟩
      have hpk : encs pk1 [altP g (pkT g f) a] = [y] := by rw [← hy1]; rfl
      rw [hy1] at hac
      repeat (first | refine acode_seq ?_ | refine acode_region ?_ | refine acode_block ?_ | refine acode_skip ?_ | refine then_n ?_)
      refine aops_ix tok (alC a) rfl rfl rfl rfl (by omega) (by omega) (by simp [alC]) (al_at ha) rfl rfl rfl ?_
      repeat (refine aops_p tok rfl rfl rfl rfl ?_)
      refine aops_alloc tok rfl rfl rfl rfl rfl rfl fun ba => ?_
      repeat (refine aops_stn tok rfl rfl rfl rfl rfl rfl rfl rfl rfl ?_)
      refine aops_pubref0 12 rfl ?_
      repeat (refine aops_end ?_)
      rcases hy2 with rfl | ⟨cs, rfl⟩
      all_goals
        (refine acode_drawP [⟨some bs, f.nodes.length * 1, cells.set i (.own ob q cap)⟩, ⟨some b, 11, grC g ++ foC f ++ [.mp ks, .own (some bs) f.nodes.length f.nodes.length]⟩] 18 [0, 1, 2, 3, 4, 5, 6, 7, 8, 9, 10, 11, 12, 13, 14, 15, 16, 17] [14, 16] mixed (by kernel_rfl) (by kernel_rfl) rfl ?_
         repeat (first | refine seqO_p tok rfl rfl rfl rfl rfl ?_ | refine seqO_ld tok 1 rfl rfl rfl rfl rfl (by simp) rfl rfl rfl rfl ?_)
         refine seqO_ixo tok rfl rfl rfl rfl rfl (by omega) (by omega) rfl rfl rfl ?_
         refine seqO_ld tok 0 (y := .own ob q cap) rfl rfl rfl rfl rfl (by simp) (by rw [headed_eq]; show (cells.set i _)[i * 1]? = _; rw [Nat.mul_one]; exact hcur) rfl rfl rfl ?_
         repeat (refine seqO_p tok rfl rfl rfl rfl rfl ?_)
         refine seqO_callw (fun _ => _) (fun _ => chM g f ks b bs (cells.set i (.own ob q cap)) (⟨ob, cap * 1, encs pk1 (ti.take q)⟩ :: ⟨some br, 3, [.int .i64 0, .int .i64 0, .nils]⟩ :: M)) rfl Try.func51 rfl rfl rfl rfl (hac.mono fun r M' h => ⟨[], h.1, h.2⟩) (by simp) rfl rfl rfl fun z => ?_
         refine seqO_lit tok rfl rfl rfl rfl rfl rfl rfl rfl rfl ?_
         refine seqO_app tok 2 (m := 1) rfl rfl rfl rfl (.inl rfl) rfl rfl (by rw [encs_len pk1_len, htlq]) rfl rfl rfl (by show _ * 8 ≤ _; omega) (by omega) (by intro y o ho; simp at ho ⊢; rcases ho with rfl | rfl <;> simp) rfl rfl rfl fun ob' cap' => ?_
         refine seqO_T rfl ?_
         refine seqT_ixo tok rfl rfl rfl rfl (by omega) (by omega) rfl rfl rfl ?_
         refine SeqT.done ?_
         refine aops_somed 76 rfl (by omega) fun c hc => ?_
         subst hc
         refine aops_stk tok 0 (cells.set i (.own (some c) (q + 1) cap')) _ rfl rfl rfl rfl rfl rfl (by rw [hcl2]; show i * 1 + 1 ≤ _; omega) (hset _) rfl rfl rfl ?_
         repeat (first | refine aops_end ?_ | refine aops_endb ?_ | refine aops_a tok rfl (by omega) (by omega) rfl rfl rfl ?_ | refine aops_p tok rfl rfl rfl rfl ?_ | refine acode_region ?_ | refine then_n ?_)
         refine ⟨(q + 1, some c, cap'), ⟨by simp only; omega, .inr ⟨c, rfl⟩⟩, by simp only; omega, ⟨rfl, rfl, rfl, rfl, rfl, rfl, rfl, rfl, rfl, rfl, trivial⟩, ?_⟩
         simp only [chM, htkq, encs_app, hpk]
         rfl)
    · obtain rfl : q = nd.alts.length := by omega
      have e1 : ti.take nd.alts.length = ti := List.take_of_length_le (by omega)
      rw [e1, ← hTl]
      refine acode_exit ?_
      repeat (first | refine exit_then ?_ | refine exit_here ?_ | refine then_n ?_ | refine block_n ?_)
      refine acode_perm ([⟨ob, cap * 1, encs pk1 ti⟩] ++ (chM g f ks b bs (cells.set i (.own ob ti.length cap)) (⟨some br, 3, [.int .i64 0, .int .i64 0, .nils]⟩ :: M))) perm3 ?_
      refine acode_freezeVM [⟨ob, cap * 1, encs pk1 ti⟩] (chM g f ks b bs (cellsP (pkT g f) f.nodes.length (l.take (p + 1))) (⟨some br, 3, [.int .i64 0, .int .i64 0, .nils]⟩ :: M)) [(3, .pp (foC f)), (4, .ref br 0), (8, .ref b 0), (43, .psl l.length (ints (nums l))), (44, .int .i64 l.length), (45, .int .i64 p)] ⟨.refl _, .refl _, .refl _, .refl _, .refl _, .refl _, trivial⟩ ?_ ?_
      · refine .cons ?_ (fun h => by cases h) (.same (VwM.rfl' _))
        have hv : Vw [⟨ob, cap * 1, encs pk1 ti⟩] (.own ob ti.length cap) (.psl ti.length (encs pk1 ti)) := by
          rcases hob with ⟨e3, rfl, rfl⟩ | ⟨c, rfl⟩
          · rw [← hTl] at e3
            have : ti = [] := List.eq_nil_of_length_eq_zero e3
            rw [e3, this]; exact .none
          · exact .own (.head _) rfl (by rw [encs_len pk1_len]) (by decide) (VwL.rfl' _)
        have := VwL.set (V := [⟨ob, cap * 1, encs pk1 ti⟩]) i (cset_same (x := A.own ob ti.length cap) (show i < cells.length by rw [hcl]; exact hi)) hv
        rw [List.set_set, hadd] at this
        exact this
      · repeat (first | refine aops_end ?_ | refine aops_a tok rfl (by omega) (by omega) rfl rfl rfl ?_ | refine aops_p tok rfl rfl rfl rfl ?_ | refine acode_region ?_)
        exact ⟨p + 1, by omega, by omega, ⟨rfl, rfl, rfl, rfl, rfl, rfl, trivial⟩, rfl⟩
  · have hge : p = l.length := by omega
    subst hge
    rw [List.take_length]
    have hrl : f.root.toNat < f.nodes.length := by omega
    have hcr := cellsP_in (T := pkT g f) hrl (hall _ hrl)
    obtain ⟨hd1, hd2⟩ := hD _ hrl
    have hbc := cbest_calls (g := g) (f := f) (ks := ks) (b := b) (bs := bs) (cells := cellsP (pkT g f) f.nodes.length l) (M := ⟨some br, 3, [.int .i64 0, .int .i64 0, .nils]⟩ :: M) (k := f.root.toNat) (l := pkT g f f.root.toNat) (cf := 53) (cap := []) (may := fun _ => true) hrl hcr (by
      rw [pkT_len (hw _ hrl)]
      obtain ⟨nk, _, hnkm, halk⟩ := nodes_at hrl
      rw [halk]
      have := (hf2 nk hnkm).1
      omega) hd1 Try.func53 rfl (fun q _ _ => all1_calls _)
    rw [show ((f.root.toNat : Nat) : Int) = f.root by omega] at hbc
    have hok : (bestF (fun _ => true) (pkT g f f.root.toNat)).isTk = false → PkOk (bestF (fun _ => true) (pkT g f f.root.toNat)) := fun h => pk_ok (fun i a ha => (h8 i a ha).1) (hw _ hrl) _ (best_in h).1 h
    unfold bestR
    generalize bestF (fun _ => true) (pkT g f f.root.toNat) = B at *
    refine acode_exit ?_
    repeat (first | refine exit_then ?_ | refine exit_here ?_ | refine then_n ?_)
    repeat (first | refine aops_p tok rfl rfl rfl rfl ?_ | refine acode_seq ?_ | refine acode_region ?_)
    refine aops_callx Try.func52 rfl rfl rfl rfl hbc rfl rfl rfl ?_
    cases B with
    | tk =>
      rw [show Pk.isTk .tk = true from rfl, if_pos rfl]
      rw [show pkA .tk = .nilp from rfl]
      repeat (first | refine aops_end ?_ | refine aops_p tok rfl rfl rfl rfl ?_ | refine acode_seq ?_ | refine acode_region ?_)
      refine aops_pz tok (b := true) rfl rfl rfl rfl rfl rfl ?_
      repeat' (first | refine aops_end ?_ | refine aops_p tok rfl rfl rfl rfl ?_ | refine acode_it rfl ?_ | refine acode_seq ?_ | refine acode_region ?_)
      refine aops_drop0 (aops_drop0 ?_)
      repeat (first | refine aops_end ?_ | refine aops_p tok rfl rfl rfl rfl ?_ | refine aops_stn tok rfl rfl rfl rfl rfl rfl rfl rfl rfl ?_)
      refine acode_pubref0 4 rfl ?_
      refine acode_ret ?_
      repeat (refine ret_then ?_)
      exact ⟨_, ⟨rfl, rfl⟩, _, _, rfl, resOf_pp tok rfl rfl rfl, resOf_tmp rfl⟩
    | nd a w q =>
      have htc := ctree_calls (hok rfl)
      rw [show Pk.isTk (.nd a w q) = false from rfl, if_neg (by simp)]
      generalize treeP (.nd a w q) = t at *
      rw [pkA_nd] at htc ⊢
      repeat (first | refine aops_end ?_ | refine aops_p tok rfl rfl rfl rfl ?_ | refine acode_seq ?_ | refine acode_region ?_)
      refine aops_pz tok (b := false) rfl rfl rfl rfl rfl rfl ?_
      repeat' (first | refine aops_end ?_ | refine aops_p tok rfl rfl rfl rfl ?_ | refine acode_if rfl ?_ | refine acode_seq ?_ | refine acode_region ?_ | refine acode_skip ?_ | refine then_n ?_)
      refine aops_callx Try.func54 rfl rfl rfl rfl (htc _) rfl rfl rfl ?_
      refine aops_drop0 (aops_drop0 ?_)
      repeat (first | refine aops_end ?_ | refine aops_p tok rfl rfl rfl rfl ?_ | refine aops_stn tok rfl rfl rfl rfl rfl rfl rfl rfl rfl ?_)
      refine acode_pubref0 4 rfl ?_
      refine acode_ret ?_
      skip
      exact ⟨_, ⟨rfl, rfl⟩, _, _, rfl, resOf_pp tok rfl rfl rfl, resOf_tmp rfl⟩
end Go.Proofs.Ytbnhmioijeagiaa.Ab
/- How many trees may be is how many there are among all that do. No condition. -/
set_option linter.unusedVariables false
set_option linter.unusedSimpArgs false
namespace Go.Proofs.Ytbnhmioijeagiaa.Ab

theorem filter_prod {α : Type} {Q : α → Bool} {R S : List α → Bool} {ls : List (List α)} : ∀ {l : List α}, (∀ x ∈ l, ∀ xs, S (x :: xs) = (Q x && R xs)) → ((prodL (l :: ls)).filter S).length = (l.filter Q).length * ((prodL ls).filter R).length
  | [], _ => by simp [prodL]
  | x :: l, h => by
    have ih := filter_prod (l := l) (ls := ls) (Q := Q) (R := R) (S := S) fun y hy => h y (by simp [hy])
    simp only [prodL] at ih
    simp only [prodL, List.flatMap_cons, List.filter_append, List.length_append]
    rw [ih, List.filter_map, List.length_map, List.filter_cons]
    have hx : ∀ xs, (S ∘ fun xs => x :: xs) xs = (Q x && R xs) := fun xs => h x (by simp) xs
    cases hq : Q x with
    | true =>
      have e : (S ∘ fun xs => x :: xs) = R := by funext xs; rw [hx, hq]; rfl
      rw [e, if_pos rfl, List.length_cons, Nat.add_mul, Nat.one_mul, Nat.add_comm]
    | false =>
      have e : (S ∘ fun xs => x :: xs) = fun _ => false := by funext xs; rw [hx, hq]; rfl
      rw [e, if_neg (by simp)]
      simp
/-- May a tree stand at a place of a rule? -/
def standB (fb : List F3) (r p : Int) (t : Tr) : Bool := !(decide (t.rule ≠ -1 ∧ (r, p, t.rule) ∈ fb)) && mayB fb t
theorem altGo_cnt {fb : List F3} {f : Fo} {g : Nat → List Int} {T : Nat → List Tr} {r : Int} : ∀ (ks : List Int) (p v : Nat), (∀ k : Nat, (k : Int) ∈ ks → ∀ p : Nat, kidGo fb r p (altsOf f k) (g k) 0 = sat (((T k).filter (standB fb r p)).length : Nat)) → altGo fb f g r p ks (sat v) = sat ((v * ((prodL (kidsL T ks)).filter (maysB fb r p)).length : Nat))
  | [], p, v, _ => by
    have : (prodL (kidsL T [])).filter (maysB fb r p) = [[]] := by simp [kidsL, prodL, maysB]
    rw [this]; simp [altGo]
  | k :: ks, p, v, hk => by
    have e : kidsL T (k :: ks) = (if 0 ≤ k then T k.toNat else [leafT k]) :: kidsL T ks := rfl
    rw [e, filter_prod (Q := standB fb r p) (R := maysB fb r (p + 1)) fun x _ xs => by rw [maysB]; rfl]
    simp only [altGo]
    split
    · rename_i h0
      obtain ⟨k', rfl⟩ := Int.eq_ofNat_of_zero_le h0
      have h1 := hk k' (by simp) p
      simp only [Int.toNat_natCast] at h1 ⊢
      rw [h1, mulN_sat (by omega) (by omega), ← Int.natCast_mul, altGo_cnt ks (p + 1) _ fun q hq => hk q (by simp [hq]), Nat.mul_assoc]
    · have h1 : [leafT k].filter (standB fb r p) = [leafT k] := by
        have : standB fb r p (leafT k) = true := by unfold standB leafT; rw [mayB_eq]; simp [Tr.rule]
        simp [this]
      rw [h1, altGo_cnt ks (p + 1) _ fun q hq => hk q (by simp [hq])]
      simp
theorem altL_rule {T : Nat → List Tr} {a : Al} : ∀ t ∈ altL T a, t.rule = a.rule := by
  intro t ht
  obtain ⟨o, _, rfl⟩ := List.mem_map.1 ht
  rfl
theorem kidGo_cnt {fb : List F3} {T : Nat → List Tr} {r p : Int} : ∀ (aS : List Al) (n : Nat), (∀ a ∈ aS, a.rule ≠ -1) → kidGo fb r p aS (aS.map fun a => sat (((altL T a).filter (mayB fb)).length : Nat)) (sat n) = sat ((n + ((aS.flatMap (altL T)).filter (standB fb r p)).length : Nat))
  | [], n, _ => by simp [kidGo]
  | a :: aS, n, h => by
    have ha := h a (by simp)
    simp only [List.map_cons, kidGo, List.flatMap_cons, List.filter_append, List.length_append]
    by_cases hm : (r, p, a.rule) ∈ fb
    · have : (altL T a).filter (standB fb r p) = [] := by
        rw [List.filter_eq_nil_iff]
        intro t ht
        unfold standB
        rw [altL_rule t ht]
        simp [ha, hm]
      rw [if_pos hm, this, kidGo_cnt aS n fun b hb => h b (by simp [hb])]
      simp
    · have : (altL T a).filter (standB fb r p) = (altL T a).filter (mayB fb) := List.filter_congr fun t ht => by
        unfold standB
        rw [altL_rule t ht]
        simp [hm]
      rw [if_neg hm, this, addN_sat (by omega) (by omega), ← Int.natCast_add, kidGo_cnt aS _ fun b hb => h b (by simp [hb]), Nat.add_assoc]
theorem ftr_cnt {fb : List F3} {f : Fo} (hr : ∀ i, ∀ a ∈ altsOf f i, a.rule ≠ -1) {i : Nat} (h : WF f i) : ftr fb f i = (altsOf f i).map fun a => sat (((altL (trL f) a).filter (mayB fb)).length : Nat) := by
  induction h with
  | @mk i hi hk hs ih =>
    rw [ftr_eq (.mk hi hk hs)]
    unfold nodeG
    refine List.map_congr_left fun a ha => ?_
    have h1 := altGo_cnt (fb := fb) (f := f) (g := ftr fb f) (T := trL f) (r := a.rule) a.kids 0 1 fun k hm p => by
      rw [ih k ⟨a, ha, hm⟩]
      have := kidGo_cnt (fb := fb) (T := trL f) (r := a.rule) (p := p) (altsOf f k) 0 (hr k)
      rw [show sat ((0 : Nat) : Int) = 0 from by decide, Nat.zero_add] at this
      rw [this, trL_eq (hs k ⟨a, ha, hm⟩)]
      rfl
    rw [show sat ((1 : Nat) : Int) = 1 from by decide, Nat.one_mul] at h1
    rw [h1]
    congr 2
    unfold altL
    rw [List.filter_map, List.length_map]
    congr 1
    refine List.filter_congr fun o ho => ?_
    show _ = mayB fb (Tr.mk a.rule 0 o)
    rw [mayB_eq]
    simp [Tr.rule, Tr.kids, hr i a ha]
theorem sumN_cnt {T : Nat → List Tr} {P : Tr → Bool} : ∀ (aS : List Al) (n : Nat), ((aS.map fun a => sat (((altL T a).filter P).length : Nat)).foldl addN (sat n)) = sat ((n + ((aS.flatMap (altL T)).filter P).length : Nat))
  | [], n => by simp
  | a :: aS, n => by
    simp only [List.map_cons, List.foldl_cons, List.flatMap_cons, List.filter_append, List.length_append]
    rw [addN_sat (by omega) (by omega), ← Int.natCast_add, sumN_cnt aS, Nat.add_assoc]
theorem ftr_sum {fb : List F3} {f : Fo} (hr : ∀ i, ∀ a ∈ altsOf f i, a.rule ≠ -1) {i : Nat} (h : WF f i) : sumN (ftr fb f i) = sat (((trL f i).filter (mayB fb)).length : Nat) := by
  rw [ftr_cnt hr h, trL_eq h]
  have := sumN_cnt (T := trL f) (P := mayB fb) (altsOf f i) 0
  rw [show sat ((0 : Nat) : Int) = 0 from by decide, Nat.zero_add] at this
  exact this
end Go.Proofs.Ytbnhmioijeagiaa.Ab
/- Package choose in plain terms: a pick's tree is one of the forest's that may be, its weight; when there is none. No condition. -/
set_option linter.unusedVariables false
set_option linter.unusedSimpArgs false
namespace Go.Proofs.Ytbnhmioijeagiaa.Ab

mutual
def rulesT : Tr → List Int
  | .mk r _ ks => if r = -1 then [] else r :: rulessT ks
def rulessT : List Tr → List Int
  | [] => []
  | t :: ts => rulesT t ++ rulessT ts
end
def sumD (g : Gr) : List Int → Int
  | [] => 0
  | r :: l => dynF g r + sumD g l
theorem sumD_app (g : Gr) : ∀ a b : List Int, sumD g (a ++ b) = sumD g a + sumD g b
  | [], b => by simp [sumD]
  | r :: a, b => by rw [List.cons_append, sumD, sumD, sumD_app g a b]; omega
def wtT (g : Gr) (t : Tr) : Int := sumD g (rulesT t)
/-- What is known of a pick: its tree is one of these, that may be. -/
structure PkIs (g : Gr) (TL : List Tr) (e : Pk) : Prop where
  mem : treeP e ∈ TL
  may : mayB g.forbid (treeP e) = true
  rule : (treeP e).rule = e.rule
  wt : e.wt = wtT g (treeP e)
  r0 : e.rule ≠ -1
theorem goP_mem {g : Gr} {T : Nat → List Pk} {TL : Nat → List Tr} {r : Int} : ∀ {l : List Int} {p : Nat} {w : Int} {ks : List Pk} {w' : Int} {ks' : List Pk}, (∀ k : Nat, (k : Int) ∈ l → ∀ e ∈ T k, e.isTk = false → PkIs g (TL k) e) → goP g.forbid T r p l w ks = some (w', ks') →
    ∃ es, ks' = ks ++ es ∧ es.length = l.length ∧ treesP l es ∈ prodL (kidsL TL l) ∧ maysB g.forbid r p (treesP l es) = true ∧ w' = w + sumD g (rulessT (treesP l es))
  | [], p, w, ks, w', ks', _, h => by
    simp only [goP, Option.some.injEq, Prod.mk.injEq] at h
    obtain ⟨rfl, rfl⟩ := h
    exact ⟨[], by simp, rfl, by simp [treesP, kidsL, prodL], by simp [treesP, maysB], by simp [treesP, rulessT, sumD]⟩
  | k :: l, p, w, ks, w', ks', hk, h => by
    have hk2 : ∀ q : Nat, (q : Int) ∈ l → ∀ e ∈ T q, e.isTk = false → PkIs g (TL q) e := fun q hq => hk q (by simp [hq])
    simp only [goP] at h
    split at h
    · rename_i h0
      obtain ⟨es, h1, h2, h3, h4, h5⟩ := goP_mem hk2 h
      refine ⟨.tk :: es, by rw [h1]; simp, by simp [h2], ?_, ?_, ?_⟩
      · rw [treesP]
        have e : kidsL TL (k :: l) = [leafT k] :: kidsL TL l := by unfold kidsL; rw [List.map_cons, if_neg (by omega)]
        rw [e, prodL]
        simp [h3]
      · rw [treesP, maysB]
        have : mayB g.forbid (leafT k) = true := by unfold leafT; rw [mayB_eq]; simp [Tr.rule]
        rw [this, h4]
        simp [leafT, Tr.rule]
      · rw [treesP, rulessT]
        have : rulesT (leafT k) = [] := by unfold leafT; rw [rulesT]; simp
        rw [this, List.nil_append]; exact h5
    · rename_i h0
      split at h
      · cases h
      · rename_i hb
        have hb : (bestF (mayP g.forbid r p) (T k.toNat)).isTk = false := by simpa using hb
        obtain ⟨b1, b2⟩ := best_in hb
        have hB := hk k.toNat (by rw [Int.toNat_of_nonneg (by omega)]; simp) _ b1 hb
        obtain ⟨es, h1, h2, h3, h4, h5⟩ := goP_mem hk2 h
        generalize hBe : bestF (mayP g.forbid r p) (T k.toNat) = B at *
        have e1 : treesP (k :: l) (B :: es) = treeP B :: treesP l es := by
          cases B with
          | tk => cases hb
          | nd a w q => rw [treesP]
        refine ⟨B :: es, by rw [h1]; simp, by simp [h2], ?_, ?_, ?_⟩
        · rw [e1]
          have e : kidsL TL (k :: l) = TL k.toNat :: kidsL TL l := by unfold kidsL; rw [List.map_cons, if_pos (by omega)]
          rw [e, prodL]
          exact List.mem_flatMap.2 ⟨_, hB.mem, List.mem_map.2 ⟨_, h3, rfl⟩⟩
        · rw [e1, maysB, hB.may, h4, hB.rule]
          unfold mayP at b2
          simp only [Bool.not_eq_true', decide_eq_false_iff_not] at b2
          simp [b2]
        · rw [e1, rulessT, sumD_app, h5, hB.wt]
          unfold wtT
          omega
theorem pick_is {g : Gr} {f : Fo} (hr : ∀ i, ∀ a ∈ altsOf f i, a.rule ≠ -1) {i : Nat} (hw : WF f i) : ∀ p ∈ pkT g f i, p.isTk = false → PkIs g (trL f i) p := by
  induction hw with
  | @mk i hi hk hs ih =>
    have hwf : WF f i := .mk hi hk hs
    intro p hp hpt
    rw [pkT_eq hwf] at hp
    obtain ⟨a, ha, rfl⟩ := List.mem_map.1 hp
    have hra := hr i a ha
    unfold altP at hpt ⊢
    cases hgo : goP g.forbid (pkT g f) a.rule 0 a.kids (dynF g a.rule) [] with
    | none => rw [hgo] at hpt; cases hpt
    | some x =>
      obtain ⟨w, ks⟩ := x
      obtain ⟨es, h1, h2, h3, h4, h5⟩ := goP_mem (TL := trL f) (fun k hm => ih k ⟨a, ha, hm⟩) hgo
      simp only [List.nil_append] at h1
      subst h1
      have ht : treeP (.nd a w ks) = .mk a.rule 0 (treesP a.kids ks) := by rw [treeP]
      show PkIs g (trL f i) (.nd a w ks)
      refine ⟨?_, ?_, ?_, ?_, hra⟩
      · rw [ht, trL_eq hwf]
        exact List.mem_flatMap.2 ⟨a, ha, List.mem_map.2 ⟨_, h3, rfl⟩⟩
      · rw [ht, mayB_eq]
        show (_ || maysB g.forbid a.rule 0 (treesP a.kids ks)) = true
        rw [h4, Bool.or_true]
      · rw [ht]; rfl
      · rw [ht]
        unfold wtT
        rw [rulesT, if_neg hra, sumD]
        exact h5
theorem mulN_zero {a b : Int} (ha : isN a) (hb : isN b) : mulN a b = 0 ↔ a = 0 ∨ b = 0 := by
  unfold mulN
  split
  · rename_i h; exact ⟨fun _ => h, fun _ => rfl⟩
  · rename_i h
    split
    · exact ⟨fun e => by unfold great at e; omega, fun e => absurd e h⟩
    · exact Int.mul_eq_zero
theorem altGo_zero {fb : List F3} {f : Fo} {G : Nat → List Int} {r : Int} : ∀ (l : List Int) (p : Nat), altGo fb f G r p l 0 = 0
  | [], _ => rfl
  | k :: l, p => by
    simp only [altGo]
    have : (if 0 ≤ k then mulN 0 (kidGo fb r p (altsOf f k.toNat) (G k.toNat) 0) else 0) = 0 := by split <;> simp [mulN]
    rw [this]; exact altGo_zero l _
theorem addN_zero {a b : Int} (ha : isN a) (hb : isN b) : addN a b = 0 ↔ a = 0 ∧ b = 0 := by
  obtain ⟨a0, a1⟩ := ha
  obtain ⟨b0, b1⟩ := hb
  unfold addN
  split
  · unfold great at *; constructor
    · intro h; omega
    · intro h; omega
  · omega
theorem kidGo_zero {fb : List F3} {r p : Int} {P : Al → Pk} {Q : Al → Int} : ∀ (ls : List Al) (n : Int), isN n → (∀ a ∈ ls, isN (Q a) ∧ ((P a).isTk = true ↔ Q a = 0) ∧ ((P a).isTk = false → (P a).rule = a.rule)) → (kidGo fb r p ls (ls.map Q) n = 0 ↔ n = 0 ∧ ∀ q ∈ ls.map P, q.isTk = true ∨ mayP fb r p q.rule = false)
  | [], n, _, _ => by simp [kidGo]
  | a :: ls, n, hn, h => by
    obtain ⟨h1, h2, h3⟩ := h a (by simp)
    simp only [List.map_cons, kidGo]
    have hstep : isN (if (r, p, a.rule) ∈ fb then n else addN n (Q a)) := by
      split
      · exact hn
      · exact addN_is hn h1
    rw [kidGo_zero ls _ hstep fun b hb => h b (by simp [hb])]
    simp only [List.mem_cons, forall_eq_or_imp, ← and_assoc]
    refine and_congr_left fun _ => ?_
    cases hp : (P a).isTk with
    | true =>
      have hq := h2.1 hp
      split
      · simp
      · rw [addN_zero hn h1, hq]; simp
    | false =>
      have hq : ¬ Q a = 0 := fun e => by rw [h2.2 e] at hp; cases hp
      rw [h3 hp]
      by_cases hm : (r, p, a.rule) ∈ fb
      · rw [if_pos hm]
        simp [mayP, hm]
      · rw [if_neg hm, addN_zero hn h1]
        simp [mayP, hm, hq]
theorem goP_none {fb : List F3} {f : Fo} {T : Nat → List Pk} {G : Nat → List Int} {r : Int} : ∀ (l : List Int) (p : Nat) (w n : Int) (ks : List Pk), isN n → n ≠ 0 → (∀ k : Nat, (k : Int) ∈ l → ∀ p : Nat, isN (kidGo fb r p (altsOf f k) (G k) 0) ∧ ((bestF (mayP fb r p) (T k)).isTk = true ↔ kidGo fb r p (altsOf f k) (G k) 0 = 0)) → (goP fb T r p l w ks = none ↔ altGo fb f G r p l n = 0)
  | [], p, w, n, ks, hn, h0, _ => by simp [goP, altGo, h0]
  | k :: l, p, w, n, ks, hn, h0, h => by
    have h2 : ∀ q : Nat, (q : Int) ∈ l → ∀ p : Nat, isN (kidGo fb r p (altsOf f q) (G q) 0) ∧ ((bestF (mayP fb r p) (T q)).isTk = true ↔ kidGo fb r p (altsOf f q) (G q) 0 = 0) := fun q hq => h q (by simp [hq])
    simp only [goP, altGo]
    by_cases hk : k < 0
    · rw [if_pos hk, if_neg (show ¬ 0 ≤ k by omega)]
      exact goP_none l _ _ _ _ hn h0 h2
    · rw [if_neg hk, if_pos (show 0 ≤ k by omega)]
      obtain ⟨h3, h4⟩ := h k.toNat (by rw [Int.toNat_of_nonneg (by omega)]; simp) p
      by_cases hb : (bestF (mayP fb r p) (T k.toNat)).isTk = true
      · rw [if_pos hb, h4.1 hb]
        simp [mulN, altGo_zero]
      · rw [if_neg hb]
        refine goP_none l _ _ _ _ (mulN_is hn h3) (fun e => ?_) h2
        rcases (mulN_zero hn h3).1 e with e1 | e1
        · exact h0 e1
        · exact hb (h4.2 e1)
theorem pick_tk {g : Gr} {f : Fo} {i : Nat} (hw : WF f i) : ∀ a ∈ altsOf f i, isN (altGo g.forbid f (ftr g.forbid f) a.rule 0 a.kids 1) ∧ ((altP g (pkT g f) a).isTk = true ↔ altGo g.forbid f (ftr g.forbid f) a.rule 0 a.kids 1 = 0) ∧ ((altP g (pkT g f) a).isTk = false → (altP g (pkT g f) a).rule = a.rule) := by
  induction hw with
  | @mk i hi hk hs ih =>
    intro a ha
    have hrule : (altP g (pkT g f) a).isTk = false → (altP g (pkT g f) a).rule = a.rule := by
      intro h
      unfold altP at h ⊢
      cases hgo : goP g.forbid (pkT g f) a.rule 0 a.kids (dynF g a.rule) [] with
      | none => rw [hgo] at h; cases h
      | some x => rfl
    have hN := fun k hm => ftr_is (fb := g.forbid) (hs k ⟨a, ha, hm⟩)
    refine ⟨altGo_is _ _ _ ⟨by decide, by decide⟩ fun k hm => hN k hm, ?_, hrule⟩
    have key := goP_none (fb := g.forbid) (f := f) (T := pkT g f) (G := ftr g.forbid f) (r := a.rule) a.kids 0 (dynF g a.rule) 1 [] ⟨by decide, by decide⟩ (by decide) fun k hm p => by
      refine ⟨kidGo_is _ _ _ ⟨by decide, by decide⟩ (hN k hm), ?_⟩
      have hkw := hs k ⟨a, ha, hm⟩
      rw [best_tk, pkT_eq hkw, ftr_eq hkw]
      unfold rowP nodeG
      rw [kidGo_zero (P := altP g (pkT g f)) (Q := fun a => altGo g.forbid f (ftr g.forbid f) a.rule 0 a.kids 1) (altsOf f k) 0 ⟨by decide, by decide⟩ (ih k ⟨a, ha, hm⟩)]
      simp
    rw [← key]
    unfold altP
    cases goP g.forbid (pkT g f) a.rule 0 a.kids (dynF g a.rule) [] with
    | none => simp [Pk.isTk]
    | some x => simp [Pk.isTk]
end Go.Proofs.Ytbnhmioijeagiaa.Ab
/- The grammar of many rules that say the same: what Best makes of its forest. No condition. -/
set_option linter.unusedVariables false
set_option linter.unusedSimpArgs false
set_option maxRecDepth 100000
namespace Go.Proofs.Ytbnhmioijeagiaa.Ab

def bstV (ds : List Int) : Nat → Nat
  | 0 => 0
  | i + 1 => if ds.getD i 0 > ds.getD (bstV ds i) 0 then i else bstV ds i
theorem bstV_le (ds : List Int) : ∀ i, bstV ds (i + 1) ≤ i
  | 0 => by unfold bstV; split <;> simp [bstV]
  | i + 1 => by
    have := bstV_le ds i
    rw [bstV]
    split <;> omega
def pkV (ds : List Int) (i j : Nat) : Pk := .nd (altV i j) (ds.getD j 0) [.tk]
theorem best_row {ds : List Int} {may : Int → Bool} (hm : ∀ q, may q = true) (i : Nat) : ∀ m, ((List.range (m + 1)).map (pkV ds i)).foldl (bestS may) .tk = pkV ds i (bstV ds (m + 1))
  | 0 => by
    have e : bstV ds 1 = 0 := Nat.le_zero.1 (bstV_le ds 0)
    rw [e]
    show bestS may .tk (pkV ds i 0) = _
    unfold bestS pkV
    rw [hm]; rfl
  | m + 1 => by
    rw [List.range_succ, List.map_append, List.foldl_append, best_row hm i m]
    have hb := bstV_le ds m
    show bestS may (pkV ds i (bstV ds (m + 1))) (pkV ds i (m + 1)) = _
    have e : bestS may (pkV ds i (bstV ds (m + 1))) (pkV ds i (m + 1)) = if betP (pkV ds i (m + 1)) (pkV ds i (bstV ds (m + 1))) = true then pkV ds i (m + 1) else pkV ds i (bstV ds (m + 1)) := by
      unfold bestS
      rw [hm, if_neg (by simp [pkV, Pk.isTk])]
      rfl
    rw [e]
    have e2 : bstV ds (m + 1 + 1) = if ds.getD (m + 1) 0 > ds.getD (bstV ds (m + 1)) 0 then m + 1 else bstV ds (m + 1) := by rw [bstV]
    rw [e2]
    generalize bstV ds (m + 1) = c at *
    unfold betP
    show (if (decide (ds.getD (m + 1) 0 > ds.getD c 0) || decide (ds.getD (m + 1) 0 = ds.getD c 0) && decide (((m + 1 : Nat) : Int) + 1 < (c : Int) + 1)) = true then _ else _) = _
    have e3 : decide (((m + 1 : Nat) : Int) + 1 < (c : Int) + 1) = false := by rw [decide_eq_false]; omega
    rw [e3, Bool.and_false, Bool.or_false]
    by_cases h : ds.getD (m + 1) 0 > ds.getD c 0
    · rw [if_pos h, if_pos (decide_eq_true h)]
    · rw [if_neg h, if_neg (by simpa using h)]
theorem fV_len {n : Nat} (h : 1 ≤ n) (r : Nat) : (fV n r).nodes.length = n + 1 := by
  unfold fV
  by_cases h1 : n = 1
  · simp [h1]
  · simp [h1]; omega
theorem fV_nd {n r i : Nat} (hi : i < n) : (fV n r).nodes[psV n i]? = some (ndV r i) := by
  unfold fV psV
  by_cases h1 : n = 1
  · obtain rfl : i = 0 := by omega
    simp [h1]
  · cases i with
    | zero => simp [h1]
    | succ i => simp [h1, List.getElem?_range (show i < n - 1 by omega)]
theorem fV_nd0 (n r : Nat) : (fV n r).nodes[rtV n]? = some (nd0V n) := by
  unfold fV rtV
  by_cases h1 : n = 1 <;> simp [h1]
theorem fV_alt {n r i : Nat} (hi : i < n) : altsOf (fV n r) (psV n i) = (List.range r).map (altV i) := by
  unfold altsOf; rw [fV_nd hi]; rfl
theorem fV_alt0 (n r : Nat) : altsOf (fV n r) (rtV n) = [⟨0, (List.range n).map (kidV n)⟩] := by
  unfold altsOf; rw [fV_nd0]; rfl
theorem psV_lt {n i : Nat} (hi : i < n) : psV n i < n + 1 := by unfold psV; split <;> (try split) <;> omega
theorem fV_cov {n j : Nat} (h : 1 ≤ n) (hj : j < n + 1) : j = rtV n ∨ ∃ i, i < n ∧ j = psV n i := by
  unfold rtV psV
  by_cases h1 : n = 1
  · rcases (show j = 0 ∨ j = 1 by omega) with rfl | rfl
    · exact .inl (by simp [h1])
    · exact .inr ⟨0, by omega, by simp [h1]⟩
  · rcases (show j = 0 ∨ j = 1 ∨ 2 ≤ j by omega) with rfl | rfl | h2
    · exact .inr ⟨0, by omega, by simp [h1]⟩
    · exact .inl (by simp [h1])
    · exact .inr ⟨j - 1, by omega, by rw [if_neg (by omega)]; omega⟩
theorem fV_wf {n r i : Nat} (hi : i < n) : WF (fV n r) (psV n i) := by
  have hk : ∀ k, Kid (fV n r) (psV n i) k → k = -1 - (i : Int) := by
    rintro k ⟨a, ha, hk⟩
    rw [fV_alt hi] at ha
    obtain ⟨j, _, rfl⟩ := List.mem_map.1 ha
    simpa [altV] using hk
  have hl := fV_len (n := n) (by omega) r
  exact .mk (by rw [hl]; exact psV_lt hi) (fun k h => by rw [hk k h, hl]; omega) (fun k h => by have := hk _ h; omega)
theorem fV_wf0 {n : Nat} (h1 : 1 ≤ n) (r : Nat) : WF (fV n r) (rtV n) := by
  have hk : ∀ k, Kid (fV n r) (rtV n) k → ∃ i, i < n ∧ k = kidV n i := by
    rintro k ⟨a, ha, hk⟩
    rw [fV_alt0] at ha
    rw [List.mem_singleton.1 ha] at hk
    obtain ⟨i, hi, rfl⟩ := List.mem_map.1 hk
    exact ⟨i, List.mem_range.1 hi, rfl⟩
  refine .mk (by rw [fV_len h1]; unfold rtV; split <;> omega) (fun k h => ?_) (fun k h => ?_)
  · obtain ⟨i, hi, rfl⟩ := hk k h
    have := psV_lt hi
    rw [fV_len h1]; unfold kidV; omega
  · obtain ⟨i, hi, e⟩ := hk _ h
    obtain rfl : k = psV n i := by unfold kidV at e; omega
    exact fV_wf hi
theorem fV_form {n : Nat} (h1 : 1 ≤ n) (r : Nat) : FForm (fV n r) := by
  refine ⟨⟨by show (0 : Int) ≤ (rtV n : Nat); omega, by show ((rtV n : Nat) : Int) < _; rw [fV_len h1]; unfold rtV; split <;> omega⟩, fun i hi => ?_⟩
  rw [fV_len h1] at hi
  rcases fV_cov h1 hi with rfl | ⟨j, hj, rfl⟩
  · exact fV_wf0 h1 r
  · exact fV_wf hj
theorem gV_dyn0 (n : Nat) (ds : List Int) : dynF (gV n ds) 0 = 0 := by
  unfold dynF
  rw [if_pos ⟨by omega, by show (0 : Int) < ((ds.map ruV).length + 1 : Nat); omega⟩]
  rfl
theorem gV_dyn (n : Nat) (ds : List Int) (j : Nat) : dynF (gV n ds) ((j : Int) + 1) = ds.getD j 0 := by
  unfold dynF
  have hl : (gV n ds).rules.length = ds.length + 1 := by simp [gV]
  rw [hl]
  by_cases h : j < ds.length
  · rw [if_pos (by omega)]
    unfold ruleAt
    rw [show ((j : Int) + 1).toNat = j + 1 by omega]
    show ((ds.map ruV).getD j ruD).dyn = _
    rw [List.getD_eq_getElem?_getD, List.getElem?_map, List.getElem?_eq_getElem h, List.getD_eq_getElem?_getD, List.getElem?_eq_getElem h]
    rfl
  · rw [if_neg (by omega), List.getD_eq_getElem?_getD, List.getElem?_eq_none (by omega)]
    rfl
theorem pkV_is (n : Nat) (ds : List Int) (T : Nat → List Pk) (i j : Nat) : altP (gV n ds) T (altV i j) = pkV ds i j := by
  unfold altP pkV
  show (match goP [] T ((j : Int) + 1) 0 [-1 - (i : Int)] (dynF (gV n ds) ((j : Int) + 1)) [] with | some x => Pk.nd (altV i j) x.1 x.2 | none => .tk) = _
  rw [gV_dyn]
  have : goP [] T ((j : Int) + 1) 0 [-1 - (i : Int)] (ds.getD j 0) [] = some (ds.getD j 0, [.tk]) := by
    simp only [goP]
    rw [if_pos (by omega)]
    rfl
  rw [this]
theorem pkT_kid {n : Nat} {ds : List Int} {i : Nat} (hi : i < n) : pkT (gV n ds) (fV n ds.length) (psV n i) = (List.range ds.length).map (pkV ds i) := by
  rw [pkT_eq (fV_wf hi)]
  unfold rowP
  rw [fV_alt hi, List.map_map]
  exact List.map_congr_left fun j _ => pkV_is n ds _ i j
theorem goP_all {T : Nat → List Pk} {n : Nat} {B : Nat → Pk} {W : Int} (hB : ∀ i, i < n → ∀ p : Nat, bestF (mayP [] 0 p) (T (psV n i)) = B i ∧ (B i).isTk = false ∧ (B i).wt = W) : ∀ (l : List Nat) (p : Nat) (w : Int) (ks : List Pk), (∀ i ∈ l, i < n) → goP [] T 0 p (l.map (kidV n)) w ks = some (w + l.length * W, ks ++ l.map B)
  | [], p, w, ks, _ => by simp [goP]
  | i :: l, p, w, ks, h => by
    obtain ⟨h1, h2, h3⟩ := hB i (h i (by simp)) p
    rw [List.map_cons, goP, if_neg (by unfold kidV; omega), show (kidV n i).toNat = psV n i by unfold kidV; omega, h1, if_neg (by simp [h2]), goP_all hB l _ _ _ fun j hj => h j (by simp [hj]), h3]
    simp only [List.length_cons, List.map_cons, List.append_assoc, List.singleton_append, Option.some.injEq, Prod.mk.injEq, and_true, Int.natCast_add, Int.add_mul]
    omega
def tV (b i : Nat) : Tr := .mk ((b : Int) + 1) 0 [leafT (-1 - (i : Int))]
theorem treeP_V (ds : List Int) (i b : Nat) : treeP (pkV ds i b) = tV b i := by
  unfold pkV tV altV
  rw [treeP, treesP]
  rfl
theorem treesP_V (n : Nat) (ds : List Int) (b : Nat) : ∀ l : List Nat, treesP (l.map (kidV n)) (l.map fun i => pkV ds i b) = l.map (tV b)
  | [] => by simp [treesP]
  | i :: l => by
    rw [List.map_cons, List.map_cons, List.map_cons, ← treesP_V n ds b l, ← treeP_V ds i b]
    show treesP (kidV n i :: _) (Pk.nd (altV i b) (ds.getD b 0) [.tk] :: _) = _
    rw [treesP]
    rfl
theorem trs_V (b : Nat) : ∀ l : List Nat, trsSize (l.map (tV b)) = l.length * 2
  | [] => by simp [trsSize]
  | i :: l => by
    rw [List.map_cons, trsSize, trs_V b l]
    simp [tV, leafT, trSize, trsSize]; omega
def treeV (n b : Nat) : Tr := .mk 0 0 ((List.range n).map (tV b))
/-- All that is told of such a row. -/
structure Hvy (n : Nat) (ds : List Int) : Prop where
  gok : GrOk (gV n ds)
  frm : formF (gV n ds) = (-1, 0)
  chk : chkF (gV n ds) = 0
  bld : (buildF (gV n ds) (List.replicate n 0) 5000).1 = some (fV n ds.length)
  ok : FoOk (fV n ds.length)
  form : FForm (fV n ds.length)
  whole : wholeB (gV n ds) (fV n ds.length) = true
  dyn : ∀ r, 0 ≤ dynF (gV n ds) r ∧ dynF (gV n ds) r ≤ 511
  small : ∀ i, ∀ a ∈ altsOf (fV n ds.length) i, (a.kids.length ≤ 1000 ∧ ∀ k ∈ a.kids, rng k) ∧ -1000000 ≤ dynF (gV n ds) a.rule ∧ dynF (gV n ds) a.rule ≤ 1000000
  dist : ∀ i, i < (fV n ds.length).nodes.length → DistB (pkT (gV n ds) (fV n ds.length) i) ∧ ∀ p ∈ pkT (gV n ds) (fV n ds.length) i, -1000000000000 ≤ p.wt ∧ p.wt ≤ 1000000000000
  best : bestR (gV n ds) (fV n ds.length) = .tup [trA (treeV n (bstV ds ds.length)), .int .i64 0]
  wt : wtT (gV n ds) (treeV n (bstV ds ds.length)) = n * ds.getD (bstV ds ds.length) 0
  size : trSize (treeV n (bstV ds ds.length)) ≤ 13
theorem rulesV {g : Gr} : ∀ (l : List Ru) (i : Int), (∀ r ∈ l, ruleF g r = 0) → rulesF g i l = none
  | [], _, _ => rfl
  | r :: l, i, h => by
    rw [rulesF, if_neg (by rw [h r (by simp)]; simp)]
    exact rulesV l _ fun q hq => h q (by simp [hq])
theorem bstV_lt {ds : List Int} (h : 1 ≤ ds.length) : bstV ds ds.length < ds.length := by
  obtain ⟨m, hm⟩ : ∃ m, ds.length = m + 1 := ⟨ds.length - 1, by omega⟩
  have := bstV_le ds m
  rw [hm]; omega
theorem hv_is {n : Nat} {ds : List Int} (h1 : 1 ≤ n) (h6 : n ≤ 6) (r1 : 1 ≤ ds.length) (r20 : ds.length ≤ 20) (hd : ∀ d ∈ ds, 0 ≤ d ∧ d ≤ 511) : Hvy n ds := by
  have hk := okV_all h1 h6 r1 r20
  simp only [okV, Bool.and_eq_true, Bool.not_eq_true'] at hk
  obtain ⟨⟨⟨⟨k1, k2⟩, k3⟩, k4⟩, k5⟩ := hk
  have hl : (gV n ds).rules.length = ds.length + 1 := by simp [gV]
  have hrm : ∀ r ∈ (gV n ds).rules, r = ⟨0, List.replicate n 1, 0⟩ ∨ ∃ d ∈ ds, r = ruV d := fun r hr => by
    rcases List.mem_cons.1 hr with h | h
    · exact .inl h
    · obtain ⟨d, hd, rfl⟩ := List.mem_map.1 h
      exact .inr ⟨d, hd, rfl⟩
  have hdyn : ∀ r, 0 ≤ dynF (gV n ds) r ∧ dynF (gV n ds) r ≤ 511 := fun r => by
    unfold dynF
    split
    · rename_i h
      have := ruleAt_at (g := gV n ds) h.1 h.2
      rcases hrm _ (List.mem_of_getElem? this) with e | ⟨d, hd', e⟩
      · rw [e]; exact ⟨by show (0 : Int) ≤ 0; omega, by show (0 : Int) ≤ 511; omega⟩
      · rw [e]; exact hd d hd'
    · omega
  have hdg : ∀ j, 0 ≤ ds.getD j 0 ∧ ds.getD j 0 ≤ 511 := fun j => by rw [← gV_dyn n ds j]; exact hdyn _
  have hwf : wholeF (gV n ds) = 0 := by
    unfold wholeF
    rw [if_neg, if_neg, if_neg]
    · exact fun h => h ⟨⟨by show ((0 : Nat) : Int) ≤ _; omega, rfl⟩, ⟨by show ((0 : Nat) : Int) ≤ 1; omega, rfl⟩⟩
    · exact fun h => h ⟨by show (0 : Int) ≤ 0; omega, by show (0 : Int) < 2; omega⟩
    · unfold bigB
      rw [hl]
      show ¬ ((2 : Int) < 1 ∨ (2 : Int) > 40 ∨ (1 : Int) < 0 ∨ (1 : Int) > 40 ∨ ds.length + 1 > 60 ∨ 0 > 200)
      omega
  have hfrm : formF (gV n ds) = (-1, 0) := by
    unfold formF
    rw [if_neg (by rw [hwf]; simp), rulesV _ _ fun r hr => ?_]
    · rfl
    · have hn2 : (gV n ds).names = 2 := rfl
      rcases hrm r hr with rfl | ⟨d, hd', rfl⟩
      · unfold ruleF
        rw [if_neg, if_neg, if_neg]
        · simp
        · simp; omega
        · rintro (h | h)
          · exact h ⟨by simp, by rw [hn2]; simp⟩
          · obtain ⟨s, hs, h⟩ := List.any_eq_true.1 h
            rw [List.eq_of_mem_replicate hs] at h
            have : isSym (gV n ds) 1 := .inr ⟨by omega, by rw [hn2]; omega⟩
            simp [this] at h
      · have := hd d hd'
        unfold ruleF ruV
        rw [if_neg, if_neg, if_neg]
        · simp only; omega
        · simp
        · rintro (h | h)
          · exact h ⟨by simp, by rw [hn2]; simp⟩
          · have : isSym (gV n ds) (-1) := .inl ⟨by omega, by show (-1 - (-1) : Int) < 1; omega⟩
            simp [this] at h
  have hF := fV_form h1 ds.length
  have hB : ∀ i, i < n → ∀ p : Nat, bestF (mayP [] 0 p) (pkT (gV n ds) (fV n ds.length) (psV n i)) = pkV ds i (bstV ds ds.length) ∧ (pkV ds i (bstV ds ds.length)).isTk = false ∧ (pkV ds i (bstV ds ds.length)).wt = ds.getD (bstV ds ds.length) 0 := fun i hi p => by
    refine ⟨?_, rfl, rfl⟩
    rw [pkT_kid hi]
    obtain ⟨m, hm⟩ : ∃ m, ds.length = m + 1 := ⟨ds.length - 1, by omega⟩
    unfold bestF
    rw [hm]
    exact best_row (fun q => by simp [mayP]) i m
  have hroot : pkT (gV n ds) (fV n ds.length) (rtV n) = [.nd ⟨0, (List.range n).map (kidV n)⟩ (n * ds.getD (bstV ds ds.length) 0) ((List.range n).map fun i => pkV ds i (bstV ds ds.length))] := by
    rw [pkT_eq (fV_wf0 h1 _)]
    unfold rowP
    rw [fV_alt0]
    show [altP (gV n ds) _ _] = _
    unfold altP
    show [match goP [] (pkT (gV n ds) (fV n ds.length)) 0 0 ((List.range n).map (kidV n)) (dynF (gV n ds) 0) [] with | some x => Pk.nd ⟨0, (List.range n).map (kidV n)⟩ x.1 x.2 | none => .tk] = _
    rw [gV_dyn0, goP_all hB (List.range n) 0 0 [] fun i hi => List.mem_range.1 hi]
    simp
  have hbest : bestF (fun _ => true) (pkT (gV n ds) (fV n ds.length) (rtV n)) = .nd ⟨0, (List.range n).map (kidV n)⟩ (n * ds.getD (bstV ds ds.length) 0) ((List.range n).map fun i => pkV ds i (bstV ds ds.length)) := by
    rw [hroot]; rfl
  have htree : treeP (.nd ⟨0, (List.range n).map (kidV n)⟩ (n * ds.getD (bstV ds ds.length) 0) ((List.range n).map fun i => pkV ds i (bstV ds ds.length))) = treeV n (bstV ds ds.length) := by
    rw [treeP, treesP_V]; rfl
  have hrr : ∀ i, ∀ a ∈ altsOf (fV n ds.length) i, a.rule ≠ -1 := fun i a ha => by
    by_cases hi : i < n + 1
    · rcases fV_cov h1 hi with rfl | ⟨j, hj, rfl⟩
      · rw [fV_alt0] at ha
        rw [List.mem_singleton.1 ha]; simp
      · rw [fV_alt hj] at ha
        obtain ⟨q, _, rfl⟩ := List.mem_map.1 ha
        show (q : Int) + 1 ≠ -1
        omega
    · unfold altsOf at ha
      rw [List.getElem?_eq_none (by rw [fV_len h1]; omega)] at ha
      cases ha
  have hWb : ∀ W : Int, 0 ≤ W → W ≤ 511 → -1000000000000 ≤ (n : Int) * W ∧ (n : Int) * W ≤ 1000000000000 := fun W w0 w1 => by
    rcases (show n = 1 ∨ n = 2 ∨ n = 3 ∨ n = 4 ∨ n = 5 ∨ n = 6 by omega) with rfl | rfl | rfl | rfl | rfl | rfl <;> omega
  refine ⟨⟨by show 0 ≤ _; omega, by show 0 ≤ _; omega, by show 0 ≤ _; omega, by rw [hl]; omega, fun r hr => ?_⟩, hfrm, ?_, by rw [gV_build]; exact isF_some k1, (sm_fo k4).1, hF, by rw [gV_whole]; exact k5, hdyn, fun i a ha => ?_, fun i hi => ?_, ?_, ?_, ?_⟩
  · rcases hrm r hr with rfl | ⟨d, hd', rfl⟩
    · refine ⟨by simp; omega, fun s hs => ?_⟩
      rw [List.eq_of_mem_replicate hs]; unfold rng; omega
    · refine ⟨by simp [ruV], fun s hs => ?_⟩
      rw [List.mem_singleton.1 hs]; unfold rng; omega
  · unfold chkF
    rw [hfrm]
    show (if ¬ (0 : Int) = 0 then (0 : Int) else if (List.range 2).any (useless (gV n ds) 2) = true then 7 else if (cycF (gV n ds) 2).any id = true then 8 else 0) = 0
    rw [if_neg (by simp), funext (gV_use n ds), k2, gV_cyc, k3]
    rfl
  · have hdr := hdyn a.rule
    by_cases hi : i < (fV n ds.length).nodes.length
    · obtain ⟨nd, hnd, hndm, hal⟩ := nodes_at hi
      rw [hal] at ha
      have := ((smOk_is k4).2 nd hndm).2 a ha
      refine ⟨⟨this.1, fun k hk => ?_⟩, by omega⟩
      have := this.2 k hk
      unfold rng; omega
    · unfold altsOf at ha
      rw [List.getElem?_eq_none (by omega)] at ha
      cases ha
  · rw [fV_len h1] at hi
    rcases fV_cov h1 hi with rfl | ⟨j, hj, rfl⟩
    · rw [hroot]
      refine ⟨by simp [DistB], fun p hp => ?_⟩
      rw [List.mem_singleton.1 hp]
      exact hWb _ (hdg _).1 (hdg _).2
    · rw [pkT_kid hj]
      refine ⟨?_, fun p hp => ?_⟩
      · unfold DistB
        rw [List.pairwise_map]
        refine List.Pairwise.imp (R := fun a b => a < b) (fun {a b} h => .inr (.inr (.inr ?_))) List.pairwise_lt_range
        show (a : Int) + 1 ≠ (b : Int) + 1
        omega
      · obtain ⟨q, _, rfl⟩ := List.mem_map.1 hp
        have := hdg q
        show -1000000000000 ≤ ds.getD q 0 ∧ ds.getD q 0 ≤ 1000000000000
        omega
  · unfold bestR
    rw [show (fV n ds.length).root.toNat = rtV n by show ((rtV n : Nat) : Int).toNat = _; omega, hbest, htree]
    rfl
  · have hP := pick_is (g := gV n ds) hrr (fV_wf0 h1 ds.length) _ (by rw [hroot]; exact List.mem_singleton.2 rfl) rfl
    have := hP.wt
    rw [htree] at this
    exact this.symm
  · unfold treeV
    rw [trSize_eq]
    show 1 + trsSize ((List.range n).map (tV _)) ≤ 13
    rw [trs_V, List.length_range]; omega
end Go.Proofs.Ytbnhmioijeagiaa.Ab
/- The forests that Build makes of two small grammars, as the kernel tells them. No condition. -/
set_option linter.unusedVariables false
set_option linter.unusedSimpArgs false
set_option maxRecDepth 100000
namespace Go.Proofs.Ytbnhmioijeagiaa.Ab

def sidF1 : Fo := ⟨[⟨0, 0, 1, [⟨0, [-1]⟩]⟩], 0⟩
theorem sidB1 : (buildF gS (ksS 0) 5000).1 = some sidF1 := isF_some (by decide +kernel)
theorem sid1NN : SidOk sidF1 [] 1 := sidOk_of (tab := [[1]]) (by decide +kernel) (by decide +kernel) (by decide +kernel)
theorem one1NY : SidOne sidF1 [(1, 2, 1)] := ⟨[[1]], by decide +kernel, by decide +kernel⟩
theorem sid1NY : SidOk sidF1 [(1, 2, 1)] 1 := sidOk_of (tab := [[1]]) (by decide +kernel) (by decide +kernel) (by decide +kernel)
theorem one1YN : SidOne sidF1 [(1, 0, 1)] := ⟨[[1]], by decide +kernel, by decide +kernel⟩
theorem sid1YN : SidOk sidF1 [(1, 0, 1)] 1 := sidOk_of (tab := [[1]]) (by decide +kernel) (by decide +kernel) (by decide +kernel)
theorem sid1YY : SidOk sidF1 [(1, 0, 1), (1, 2, 1)] 1 := sidOk_of (tab := [[1]]) (by decide +kernel) (by decide +kernel) (by decide +kernel)
def sidF2 : Fo := ⟨[⟨0, 0, 1, [⟨0, [-1]⟩]⟩, ⟨0, 0, 3, [⟨1, [0, -2, 2]⟩]⟩, ⟨0, 2, 3, [⟨0, [-3]⟩]⟩], 1⟩
theorem sidB2 : (buildF gS (ksS 1) 5000).1 = some sidF2 := isF_some (by decide +kernel)
theorem sid2NN : SidOk sidF2 [] 1 := sidOk_of (tab := [[1], [1], [1]]) (by decide +kernel) (by decide +kernel) (by decide +kernel)
theorem one2NY : SidOne sidF2 [(1, 2, 1)] := ⟨[[1], [1], [1]], by decide +kernel, by decide +kernel⟩
theorem sid2NY : SidOk sidF2 [(1, 2, 1)] 1 := sidOk_of (tab := [[1], [1], [1]]) (by decide +kernel) (by decide +kernel) (by decide +kernel)
theorem one2YN : SidOne sidF2 [(1, 0, 1)] := ⟨[[1], [1], [1]], by decide +kernel, by decide +kernel⟩
theorem sid2YN : SidOk sidF2 [(1, 0, 1)] 1 := sidOk_of (tab := [[1], [1], [1]]) (by decide +kernel) (by decide +kernel) (by decide +kernel)
theorem sid2YY : SidOk sidF2 [(1, 0, 1), (1, 2, 1)] 1 := sidOk_of (tab := [[1], [1], [1]]) (by decide +kernel) (by decide +kernel) (by decide +kernel)
def sidF3 : Fo := ⟨[⟨0, 0, 1, [⟨0, [-1]⟩]⟩, ⟨0, 0, 3, [⟨1, [0, -2, 3]⟩]⟩, ⟨0, 0, 5, [⟨1, [0, -2, 4]⟩, ⟨1, [1, -4, 5]⟩]⟩, ⟨0, 2, 3, [⟨0, [-3]⟩]⟩, ⟨0, 2, 5, [⟨1, [3, -4, 5]⟩]⟩, ⟨0, 4, 5, [⟨0, [-5]⟩]⟩], 2⟩
theorem sidB3 : (buildF gS (ksS 2) 5000).1 = some sidF3 := isF_some (by decide +kernel)
theorem sid3NN : SidOk sidF3 [] 2 := sidOk_of (tab := [[1], [1], [1, 1], [1], [1], [1]]) (by decide +kernel) (by decide +kernel) (by decide +kernel)
theorem one3NY : SidOne sidF3 [(1, 2, 1)] := ⟨[[1], [1], [0, 1], [1], [1], [1]], by decide +kernel, by decide +kernel⟩
theorem sid3NY : SidOk sidF3 [(1, 2, 1)] 1 := sidOk_of (tab := [[1], [1], [0, 1], [1], [1], [1]]) (by decide +kernel) (by decide +kernel) (by decide +kernel)
theorem one3YN : SidOne sidF3 [(1, 0, 1)] := ⟨[[1], [1], [1, 0], [1], [1], [1]], by decide +kernel, by decide +kernel⟩
theorem sid3YN : SidOk sidF3 [(1, 0, 1)] 1 := sidOk_of (tab := [[1], [1], [1, 0], [1], [1], [1]]) (by decide +kernel) (by decide +kernel) (by decide +kernel)
theorem sid3YY : SidOk sidF3 [(1, 0, 1), (1, 2, 1)] 0 := sidOk_of (tab := [[1], [1], [0, 0], [1], [1], [1]]) (by decide +kernel) (by decide +kernel) (by decide +kernel)
def sidF4 : Fo := ⟨[⟨0, 0, 1, [⟨0, [-1]⟩]⟩, ⟨0, 0, 3, [⟨1, [0, -2, 4]⟩]⟩, ⟨0, 0, 5, [⟨1, [0, -2, 5]⟩, ⟨1, [1, -4, 7]⟩]⟩, ⟨0, 0, 7, [⟨1, [0, -2, 6]⟩, ⟨1, [1, -4, 8]⟩, ⟨1, [2, -6, 9]⟩]⟩, ⟨0, 2, 3, [⟨0, [-3]⟩]⟩, ⟨0, 2, 5, [⟨1, [4, -4, 7]⟩]⟩, ⟨0, 2, 7, [⟨1, [4, -4, 8]⟩, ⟨1, [5, -6, 9]⟩]⟩, ⟨0, 4, 5, [⟨0, [-5]⟩]⟩, ⟨0, 4, 7, [⟨1, [7, -6, 9]⟩]⟩, ⟨0, 6, 7, [⟨0, [-7]⟩]⟩], 3⟩
theorem sidB4 : (buildF gS (ksS 3) 5000).1 = some sidF4 := isF_some (by decide +kernel)
theorem sid4NN : SidOk sidF4 [] 5 := sidOk_of (tab := [[1], [1], [1, 1], [2, 1, 2], [1], [1], [1, 1], [1], [1], [1]]) (by decide +kernel) (by decide +kernel) (by decide +kernel)
theorem one4NY : SidOne sidF4 [(1, 2, 1)] := ⟨[[1], [1], [0, 1], [0, 0, 1], [1], [1], [0, 1], [1], [1], [1]], by decide +kernel, by decide +kernel⟩
theorem sid4NY : SidOk sidF4 [(1, 2, 1)] 1 := sidOk_of (tab := [[1], [1], [0, 1], [0, 0, 1], [1], [1], [0, 1], [1], [1], [1]]) (by decide +kernel) (by decide +kernel) (by decide +kernel)
theorem one4YN : SidOne sidF4 [(1, 0, 1)] := ⟨[[1], [1], [1, 0], [1, 0, 0], [1], [1], [1, 0], [1], [1], [1]], by decide +kernel, by decide +kernel⟩
theorem sid4YN : SidOk sidF4 [(1, 0, 1)] 1 := sidOk_of (tab := [[1], [1], [1, 0], [1, 0, 0], [1], [1], [1, 0], [1], [1], [1]]) (by decide +kernel) (by decide +kernel) (by decide +kernel)
theorem sid4YY : SidOk sidF4 [(1, 0, 1), (1, 2, 1)] 0 := sidOk_of (tab := [[1], [1], [0, 0], [0, 0, 0], [1], [1], [0, 0], [1], [1], [1]]) (by decide +kernel) (by decide +kernel) (by decide +kernel)
def sidF5 : Fo := ⟨[⟨0, 0, 1, [⟨0, [-1]⟩]⟩, ⟨0, 0, 3, [⟨1, [0, -2, 5]⟩]⟩, ⟨0, 0, 5, [⟨1, [0, -2, 6]⟩, ⟨1, [1, -4, 9]⟩]⟩, ⟨0, 0, 7, [⟨1, [0, -2, 7]⟩, ⟨1, [1, -4, 10]⟩, ⟨1, [2, -6, 12]⟩]⟩, ⟨0, 0, 9, [⟨1, [0, -2, 8]⟩, ⟨1, [1, -4, 11]⟩, ⟨1, [2, -6, 13]⟩, ⟨1, [3, -8, 14]⟩]⟩, ⟨0, 2, 3, [⟨0, [-3]⟩]⟩, ⟨0, 2, 5, [⟨1, [5, -4, 9]⟩]⟩, ⟨0, 2, 7, [⟨1, [5, -4, 10]⟩, ⟨1, [6, -6, 12]⟩]⟩, ⟨0, 2, 9, [⟨1, [5, -4, 11]⟩, ⟨1, [6, -6, 13]⟩, ⟨1, [7, -8, 14]⟩]⟩, ⟨0, 4, 5, [⟨0, [-5]⟩]⟩, ⟨0, 4, 7, [⟨1, [9, -6, 12]⟩]⟩, ⟨0, 4, 9, [⟨1, [9, -6, 13]⟩, ⟨1, [10, -8, 14]⟩]⟩, ⟨0, 6, 7, [⟨0, [-7]⟩]⟩, ⟨0, 6, 9, [⟨1, [12, -8, 14]⟩]⟩, ⟨0, 8, 9, [⟨0, [-9]⟩]⟩], 4⟩
theorem sidB5 : (buildF gS (ksS 4) 5000).1 = some sidF5 := isF_some (by decide +kernel)
theorem sid5NN : SidOk sidF5 [] 14 := sidOk_of (tab := [[1], [1], [1, 1], [2, 1, 2], [5, 2, 2, 5], [1], [1], [1, 1], [2, 1, 2], [1], [1], [1, 1], [1], [1], [1]]) (by decide +kernel) (by decide +kernel) (by decide +kernel)
theorem one5NY : SidOne sidF5 [(1, 2, 1)] := ⟨[[1], [1], [0, 1], [0, 0, 1], [0, 0, 0, 1], [1], [1], [0, 1], [0, 0, 1], [1], [1], [0, 1], [1], [1], [1]], by decide +kernel, by decide +kernel⟩
theorem sid5NY : SidOk sidF5 [(1, 2, 1)] 1 := sidOk_of (tab := [[1], [1], [0, 1], [0, 0, 1], [0, 0, 0, 1], [1], [1], [0, 1], [0, 0, 1], [1], [1], [0, 1], [1], [1], [1]]) (by decide +kernel) (by decide +kernel) (by decide +kernel)
theorem one5YN : SidOne sidF5 [(1, 0, 1)] := ⟨[[1], [1], [1, 0], [1, 0, 0], [1, 0, 0, 0], [1], [1], [1, 0], [1, 0, 0], [1], [1], [1, 0], [1], [1], [1]], by decide +kernel, by decide +kernel⟩
theorem sid5YN : SidOk sidF5 [(1, 0, 1)] 1 := sidOk_of (tab := [[1], [1], [1, 0], [1, 0, 0], [1, 0, 0, 0], [1], [1], [1, 0], [1, 0, 0], [1], [1], [1, 0], [1], [1], [1]]) (by decide +kernel) (by decide +kernel) (by decide +kernel)
theorem sid5YY : SidOk sidF5 [(1, 0, 1), (1, 2, 1)] 0 := sidOk_of (tab := [[1], [1], [0, 0], [0, 0, 0], [0, 0, 0, 0], [1], [1], [0, 0], [0, 0, 0], [1], [1], [0, 0], [1], [1], [1]]) (by decide +kernel) (by decide +kernel) (by decide +kernel)
def sidF6 : Fo := ⟨[⟨0, 0, 1, [⟨0, [-1]⟩]⟩, ⟨0, 0, 3, [⟨1, [0, -2, 6]⟩]⟩, ⟨0, 0, 5, [⟨1, [0, -2, 7]⟩, ⟨1, [1, -4, 11]⟩]⟩, ⟨0, 0, 7, [⟨1, [0, -2, 8]⟩, ⟨1, [1, -4, 12]⟩, ⟨1, [2, -6, 15]⟩]⟩, ⟨0, 0, 9, [⟨1, [0, -2, 9]⟩, ⟨1, [1, -4, 13]⟩, ⟨1, [2, -6, 16]⟩, ⟨1, [3, -8, 18]⟩]⟩, ⟨0, 0, 11, [⟨1, [0, -2, 10]⟩, ⟨1, [1, -4, 14]⟩, ⟨1, [2, -6, 17]⟩, ⟨1, [3, -8, 19]⟩, ⟨1, [4, -10, 20]⟩]⟩, ⟨0, 2, 3, [⟨0, [-3]⟩]⟩, ⟨0, 2, 5, [⟨1, [6, -4, 11]⟩]⟩, ⟨0, 2, 7, [⟨1, [6, -4, 12]⟩, ⟨1, [7, -6, 15]⟩]⟩, ⟨0, 2, 9, [⟨1, [6, -4, 13]⟩, ⟨1, [7, -6, 16]⟩, ⟨1, [8, -8, 18]⟩]⟩, ⟨0, 2, 11, [⟨1, [6, -4, 14]⟩, ⟨1, [7, -6, 17]⟩, ⟨1, [8, -8, 19]⟩, ⟨1, [9, -10, 20]⟩]⟩, ⟨0, 4, 5, [⟨0, [-5]⟩]⟩, ⟨0, 4, 7, [⟨1, [11, -6, 15]⟩]⟩, ⟨0, 4, 9, [⟨1, [11, -6, 16]⟩, ⟨1, [12, -8, 18]⟩]⟩, ⟨0, 4, 11, [⟨1, [11, -6, 17]⟩, ⟨1, [12, -8, 19]⟩, ⟨1, [13, -10, 20]⟩]⟩, ⟨0, 6, 7, [⟨0, [-7]⟩]⟩, ⟨0, 6, 9, [⟨1, [15, -8, 18]⟩]⟩, ⟨0, 6, 11, [⟨1, [15, -8, 19]⟩, ⟨1, [16, -10, 20]⟩]⟩, ⟨0, 8, 9, [⟨0, [-9]⟩]⟩, ⟨0, 8, 11, [⟨1, [18, -10, 20]⟩]⟩, ⟨0, 10, 11, [⟨0, [-11]⟩]⟩], 5⟩
theorem sidB6 : (buildF gS (ksS 5) 5000).1 = some sidF6 := isF_some (by decide +kernel)
theorem sid6NN : SidOk sidF6 [] 42 := sidOk_of (tab := [[1], [1], [1, 1], [2, 1, 2], [5, 2, 2, 5], [14, 5, 4, 5, 14], [1], [1], [1, 1], [2, 1, 2], [5, 2, 2, 5], [1], [1], [1, 1], [2, 1, 2], [1], [1], [1, 1], [1], [1], [1]]) (by decide +kernel) (by decide +kernel) (by decide +kernel)
theorem one6NY : SidOne sidF6 [(1, 2, 1)] := ⟨[[1], [1], [0, 1], [0, 0, 1], [0, 0, 0, 1], [0, 0, 0, 0, 1], [1], [1], [0, 1], [0, 0, 1], [0, 0, 0, 1], [1], [1], [0, 1], [0, 0, 1], [1], [1], [0, 1], [1], [1], [1]], by decide +kernel, by decide +kernel⟩
theorem sid6NY : SidOk sidF6 [(1, 2, 1)] 1 := sidOk_of (tab := [[1], [1], [0, 1], [0, 0, 1], [0, 0, 0, 1], [0, 0, 0, 0, 1], [1], [1], [0, 1], [0, 0, 1], [0, 0, 0, 1], [1], [1], [0, 1], [0, 0, 1], [1], [1], [0, 1], [1], [1], [1]]) (by decide +kernel) (by decide +kernel) (by decide +kernel)
theorem one6YN : SidOne sidF6 [(1, 0, 1)] := ⟨[[1], [1], [1, 0], [1, 0, 0], [1, 0, 0, 0], [1, 0, 0, 0, 0], [1], [1], [1, 0], [1, 0, 0], [1, 0, 0, 0], [1], [1], [1, 0], [1, 0, 0], [1], [1], [1, 0], [1], [1], [1]], by decide +kernel, by decide +kernel⟩
theorem sid6YN : SidOk sidF6 [(1, 0, 1)] 1 := sidOk_of (tab := [[1], [1], [1, 0], [1, 0, 0], [1, 0, 0, 0], [1, 0, 0, 0, 0], [1], [1], [1, 0], [1, 0, 0], [1, 0, 0, 0], [1], [1], [1, 0], [1, 0, 0], [1], [1], [1, 0], [1], [1], [1]]) (by decide +kernel) (by decide +kernel) (by decide +kernel)
theorem sid6YY : SidOk sidF6 [(1, 0, 1), (1, 2, 1)] 0 := sidOk_of (tab := [[1], [1], [0, 0], [0, 0, 0], [0, 0, 0, 0], [0, 0, 0, 0, 0], [1], [1], [0, 0], [0, 0, 0], [0, 0, 0, 0], [1], [1], [0, 0], [0, 0, 0], [1], [1], [0, 0], [1], [1], [1]]) (by decide +kernel) (by decide +kernel) (by decide +kernel)
def sidF7 : Fo := ⟨[⟨0, 0, 1, [⟨0, [-1]⟩]⟩, ⟨0, 0, 3, [⟨1, [0, -2, 7]⟩]⟩, ⟨0, 0, 5, [⟨1, [0, -2, 8]⟩, ⟨1, [1, -4, 13]⟩]⟩, ⟨0, 0, 7, [⟨1, [0, -2, 9]⟩, ⟨1, [1, -4, 14]⟩, ⟨1, [2, -6, 18]⟩]⟩, ⟨0, 0, 9, [⟨1, [0, -2, 10]⟩, ⟨1, [1, -4, 15]⟩, ⟨1, [2, -6, 19]⟩, ⟨1, [3, -8, 22]⟩]⟩, ⟨0, 0, 11, [⟨1, [0, -2, 11]⟩, ⟨1, [1, -4, 16]⟩, ⟨1, [2, -6, 20]⟩, ⟨1, [3, -8, 23]⟩, ⟨1, [4, -10, 25]⟩]⟩, ⟨0, 0, 13, [⟨1, [0, -2, 12]⟩, ⟨1, [1, -4, 17]⟩, ⟨1, [2, -6, 21]⟩, ⟨1, [3, -8, 24]⟩, ⟨1, [4, -10, 26]⟩, ⟨1, [5, -12, 27]⟩]⟩, ⟨0, 2, 3, [⟨0, [-3]⟩]⟩, ⟨0, 2, 5, [⟨1, [7, -4, 13]⟩]⟩, ⟨0, 2, 7, [⟨1, [7, -4, 14]⟩, ⟨1, [8, -6, 18]⟩]⟩, ⟨0, 2, 9, [⟨1, [7, -4, 15]⟩, ⟨1, [8, -6, 19]⟩, ⟨1, [9, -8, 22]⟩]⟩, ⟨0, 2, 11, [⟨1, [7, -4, 16]⟩, ⟨1, [8, -6, 20]⟩, ⟨1, [9, -8, 23]⟩, ⟨1, [10, -10, 25]⟩]⟩, ⟨0, 2, 13, [⟨1, [7, -4, 17]⟩, ⟨1, [8, -6, 21]⟩, ⟨1, [9, -8, 24]⟩, ⟨1, [10, -10, 26]⟩, ⟨1, [11, -12, 27]⟩]⟩, ⟨0, 4, 5, [⟨0, [-5]⟩]⟩, ⟨0, 4, 7, [⟨1, [13, -6, 18]⟩]⟩, ⟨0, 4, 9, [⟨1, [13, -6, 19]⟩, ⟨1, [14, -8, 22]⟩]⟩, ⟨0, 4, 11, [⟨1, [13, -6, 20]⟩, ⟨1, [14, -8, 23]⟩, ⟨1, [15, -10, 25]⟩]⟩, ⟨0, 4, 13, [⟨1, [13, -6, 21]⟩, ⟨1, [14, -8, 24]⟩, ⟨1, [15, -10, 26]⟩, ⟨1, [16, -12, 27]⟩]⟩, ⟨0, 6, 7, [⟨0, [-7]⟩]⟩, ⟨0, 6, 9, [⟨1, [18, -8, 22]⟩]⟩, ⟨0, 6, 11, [⟨1, [18, -8, 23]⟩, ⟨1, [19, -10, 25]⟩]⟩, ⟨0, 6, 13, [⟨1, [18, -8, 24]⟩, ⟨1, [19, -10, 26]⟩, ⟨1, [20, -12, 27]⟩]⟩, ⟨0, 8, 9, [⟨0, [-9]⟩]⟩, ⟨0, 8, 11, [⟨1, [22, -10, 25]⟩]⟩, ⟨0, 8, 13, [⟨1, [22, -10, 26]⟩, ⟨1, [23, -12, 27]⟩]⟩, ⟨0, 10, 11, [⟨0, [-11]⟩]⟩, ⟨0, 10, 13, [⟨1, [25, -12, 27]⟩]⟩, ⟨0, 12, 13, [⟨0, [-13]⟩]⟩], 6⟩
theorem sidB7 : (buildF gS (ksS 6) 5000).1 = some sidF7 := isF_some (by decide +kernel)
theorem sid7NN : SidOk sidF7 [] 132 := sidOk_of (tab := [[1], [1], [1, 1], [2, 1, 2], [5, 2, 2, 5], [14, 5, 4, 5, 14], [42, 14, 10, 10, 14, 42], [1], [1], [1, 1], [2, 1, 2], [5, 2, 2, 5], [14, 5, 4, 5, 14], [1], [1], [1, 1], [2, 1, 2], [5, 2, 2, 5], [1], [1], [1, 1], [2, 1, 2], [1], [1], [1, 1], [1], [1], [1]]) (by decide +kernel) (by decide +kernel) (by decide +kernel)
theorem one7NY : SidOne sidF7 [(1, 2, 1)] := ⟨[[1], [1], [0, 1], [0, 0, 1], [0, 0, 0, 1], [0, 0, 0, 0, 1], [0, 0, 0, 0, 0, 1], [1], [1], [0, 1], [0, 0, 1], [0, 0, 0, 1], [0, 0, 0, 0, 1], [1], [1], [0, 1], [0, 0, 1], [0, 0, 0, 1], [1], [1], [0, 1], [0, 0, 1], [1], [1], [0, 1], [1], [1], [1]], by decide +kernel, by decide +kernel⟩
theorem sid7NY : SidOk sidF7 [(1, 2, 1)] 1 := sidOk_of (tab := [[1], [1], [0, 1], [0, 0, 1], [0, 0, 0, 1], [0, 0, 0, 0, 1], [0, 0, 0, 0, 0, 1], [1], [1], [0, 1], [0, 0, 1], [0, 0, 0, 1], [0, 0, 0, 0, 1], [1], [1], [0, 1], [0, 0, 1], [0, 0, 0, 1], [1], [1], [0, 1], [0, 0, 1], [1], [1], [0, 1], [1], [1], [1]]) (by decide +kernel) (by decide +kernel) (by decide +kernel)
theorem one7YN : SidOne sidF7 [(1, 0, 1)] := ⟨[[1], [1], [1, 0], [1, 0, 0], [1, 0, 0, 0], [1, 0, 0, 0, 0], [1, 0, 0, 0, 0, 0], [1], [1], [1, 0], [1, 0, 0], [1, 0, 0, 0], [1, 0, 0, 0, 0], [1], [1], [1, 0], [1, 0, 0], [1, 0, 0, 0], [1], [1], [1, 0], [1, 0, 0], [1], [1], [1, 0], [1], [1], [1]], by decide +kernel, by decide +kernel⟩
theorem sid7YN : SidOk sidF7 [(1, 0, 1)] 1 := sidOk_of (tab := [[1], [1], [1, 0], [1, 0, 0], [1, 0, 0, 0], [1, 0, 0, 0, 0], [1, 0, 0, 0, 0, 0], [1], [1], [1, 0], [1, 0, 0], [1, 0, 0, 0], [1, 0, 0, 0, 0], [1], [1], [1, 0], [1, 0, 0], [1, 0, 0, 0], [1], [1], [1, 0], [1, 0, 0], [1], [1], [1, 0], [1], [1], [1]]) (by decide +kernel) (by decide +kernel) (by decide +kernel)
theorem sid7YY : SidOk sidF7 [(1, 0, 1), (1, 2, 1)] 0 := sidOk_of (tab := [[1], [1], [0, 0], [0, 0, 0], [0, 0, 0, 0], [0, 0, 0, 0, 0], [0, 0, 0, 0, 0, 0], [1], [1], [0, 0], [0, 0, 0], [0, 0, 0, 0], [0, 0, 0, 0, 0], [1], [1], [0, 0], [0, 0, 0], [0, 0, 0, 0], [1], [1], [0, 0], [0, 0, 0], [1], [1], [0, 0], [1], [1], [1]]) (by decide +kernel) (by decide +kernel) (by decide +kernel)
def sidF8 : Fo := ⟨[⟨0, 0, 1, [⟨0, [-1]⟩]⟩, ⟨0, 0, 3, [⟨1, [0, -2, 8]⟩]⟩, ⟨0, 0, 5, [⟨1, [0, -2, 9]⟩, ⟨1, [1, -4, 15]⟩]⟩, ⟨0, 0, 7, [⟨1, [0, -2, 10]⟩, ⟨1, [1, -4, 16]⟩, ⟨1, [2, -6, 21]⟩]⟩, ⟨0, 0, 9, [⟨1, [0, -2, 11]⟩, ⟨1, [1, -4, 17]⟩, ⟨1, [2, -6, 22]⟩, ⟨1, [3, -8, 26]⟩]⟩, ⟨0, 0, 11, [⟨1, [0, -2, 12]⟩, ⟨1, [1, -4, 18]⟩, ⟨1, [2, -6, 23]⟩, ⟨1, [3, -8, 27]⟩, ⟨1, [4, -10, 30]⟩]⟩, ⟨0, 0, 13, [⟨1, [0, -2, 13]⟩, ⟨1, [1, -4, 19]⟩, ⟨1, [2, -6, 24]⟩, ⟨1, [3, -8, 28]⟩, ⟨1, [4, -10, 31]⟩, ⟨1, [5, -12, 33]⟩]⟩, ⟨0, 0, 15, [⟨1, [0, -2, 14]⟩, ⟨1, [1, -4, 20]⟩, ⟨1, [2, -6, 25]⟩, ⟨1, [3, -8, 29]⟩, ⟨1, [4, -10, 32]⟩, ⟨1, [5, -12, 34]⟩, ⟨1, [6, -14, 35]⟩]⟩, ⟨0, 2, 3, [⟨0, [-3]⟩]⟩, ⟨0, 2, 5, [⟨1, [8, -4, 15]⟩]⟩, ⟨0, 2, 7, [⟨1, [8, -4, 16]⟩, ⟨1, [9, -6, 21]⟩]⟩, ⟨0, 2, 9, [⟨1, [8, -4, 17]⟩, ⟨1, [9, -6, 22]⟩, ⟨1, [10, -8, 26]⟩]⟩, ⟨0, 2, 11, [⟨1, [8, -4, 18]⟩, ⟨1, [9, -6, 23]⟩, ⟨1, [10, -8, 27]⟩, ⟨1, [11, -10, 30]⟩]⟩, ⟨0, 2, 13, [⟨1, [8, -4, 19]⟩, ⟨1, [9, -6, 24]⟩, ⟨1, [10, -8, 28]⟩, ⟨1, [11, -10, 31]⟩, ⟨1, [12, -12, 33]⟩]⟩, ⟨0, 2, 15, [⟨1, [8, -4, 20]⟩, ⟨1, [9, -6, 25]⟩, ⟨1, [10, -8, 29]⟩, ⟨1, [11, -10, 32]⟩, ⟨1, [12, -12, 34]⟩, ⟨1, [13, -14, 35]⟩]⟩, ⟨0, 4, 5, [⟨0, [-5]⟩]⟩, ⟨0, 4, 7, [⟨1, [15, -6, 21]⟩]⟩, ⟨0, 4, 9, [⟨1, [15, -6, 22]⟩, ⟨1, [16, -8, 26]⟩]⟩, ⟨0, 4, 11, [⟨1, [15, -6, 23]⟩, ⟨1, [16, -8, 27]⟩, ⟨1, [17, -10, 30]⟩]⟩, ⟨0, 4, 13, [⟨1, [15, -6, 24]⟩, ⟨1, [16, -8, 28]⟩, ⟨1, [17, -10, 31]⟩, ⟨1, [18, -12, 33]⟩]⟩, ⟨0, 4, 15, [⟨1, [15, -6, 25]⟩, ⟨1, [16, -8, 29]⟩, ⟨1, [17, -10, 32]⟩, ⟨1, [18, -12, 34]⟩, ⟨1, [19, -14, 35]⟩]⟩, ⟨0, 6, 7, [⟨0, [-7]⟩]⟩, ⟨0, 6, 9, [⟨1, [21, -8, 26]⟩]⟩, ⟨0, 6, 11, [⟨1, [21, -8, 27]⟩, ⟨1, [22, -10, 30]⟩]⟩, ⟨0, 6, 13, [⟨1, [21, -8, 28]⟩, ⟨1, [22, -10, 31]⟩, ⟨1, [23, -12, 33]⟩]⟩, ⟨0, 6, 15, [⟨1, [21, -8, 29]⟩, ⟨1, [22, -10, 32]⟩, ⟨1, [23, -12, 34]⟩, ⟨1, [24, -14, 35]⟩]⟩, ⟨0, 8, 9, [⟨0, [-9]⟩]⟩, ⟨0, 8, 11, [⟨1, [26, -10, 30]⟩]⟩, ⟨0, 8, 13, [⟨1, [26, -10, 31]⟩, ⟨1, [27, -12, 33]⟩]⟩, ⟨0, 8, 15, [⟨1, [26, -10, 32]⟩, ⟨1, [27, -12, 34]⟩, ⟨1, [28, -14, 35]⟩]⟩, ⟨0, 10, 11, [⟨0, [-11]⟩]⟩, ⟨0, 10, 13, [⟨1, [30, -12, 33]⟩]⟩, ⟨0, 10, 15, [⟨1, [30, -12, 34]⟩, ⟨1, [31, -14, 35]⟩]⟩, ⟨0, 12, 13, [⟨0, [-13]⟩]⟩, ⟨0, 12, 15, [⟨1, [33, -14, 35]⟩]⟩, ⟨0, 14, 15, [⟨0, [-15]⟩]⟩], 7⟩
theorem sidB8 : (buildF gS (ksS 7) 5000).1 = some sidF8 := isF_some (by decide +kernel)
theorem sid8NN : SidOk sidF8 [] 429 := sidOk_of (tab := [[1], [1], [1, 1], [2, 1, 2], [5, 2, 2, 5], [14, 5, 4, 5, 14], [42, 14, 10, 10, 14, 42], [132, 42, 28, 25, 28, 42, 132], [1], [1], [1, 1], [2, 1, 2], [5, 2, 2, 5], [14, 5, 4, 5, 14], [42, 14, 10, 10, 14, 42], [1], [1], [1, 1], [2, 1, 2], [5, 2, 2, 5], [14, 5, 4, 5, 14], [1], [1], [1, 1], [2, 1, 2], [5, 2, 2, 5], [1], [1], [1, 1], [2, 1, 2], [1], [1], [1, 1], [1], [1], [1]]) (by decide +kernel) (by decide +kernel) (by decide +kernel)
theorem one8NY : SidOne sidF8 [(1, 2, 1)] := ⟨[[1], [1], [0, 1], [0, 0, 1], [0, 0, 0, 1], [0, 0, 0, 0, 1], [0, 0, 0, 0, 0, 1], [0, 0, 0, 0, 0, 0, 1], [1], [1], [0, 1], [0, 0, 1], [0, 0, 0, 1], [0, 0, 0, 0, 1], [0, 0, 0, 0, 0, 1], [1], [1], [0, 1], [0, 0, 1], [0, 0, 0, 1], [0, 0, 0, 0, 1], [1], [1], [0, 1], [0, 0, 1], [0, 0, 0, 1], [1], [1], [0, 1], [0, 0, 1], [1], [1], [0, 1], [1], [1], [1]], by decide +kernel, by decide +kernel⟩
theorem sid8NY : SidOk sidF8 [(1, 2, 1)] 1 := sidOk_of (tab := [[1], [1], [0, 1], [0, 0, 1], [0, 0, 0, 1], [0, 0, 0, 0, 1], [0, 0, 0, 0, 0, 1], [0, 0, 0, 0, 0, 0, 1], [1], [1], [0, 1], [0, 0, 1], [0, 0, 0, 1], [0, 0, 0, 0, 1], [0, 0, 0, 0, 0, 1], [1], [1], [0, 1], [0, 0, 1], [0, 0, 0, 1], [0, 0, 0, 0, 1], [1], [1], [0, 1], [0, 0, 1], [0, 0, 0, 1], [1], [1], [0, 1], [0, 0, 1], [1], [1], [0, 1], [1], [1], [1]]) (by decide +kernel) (by decide +kernel) (by decide +kernel)
theorem one8YN : SidOne sidF8 [(1, 0, 1)] := ⟨[[1], [1], [1, 0], [1, 0, 0], [1, 0, 0, 0], [1, 0, 0, 0, 0], [1, 0, 0, 0, 0, 0], [1, 0, 0, 0, 0, 0, 0], [1], [1], [1, 0], [1, 0, 0], [1, 0, 0, 0], [1, 0, 0, 0, 0], [1, 0, 0, 0, 0, 0], [1], [1], [1, 0], [1, 0, 0], [1, 0, 0, 0], [1, 0, 0, 0, 0], [1], [1], [1, 0], [1, 0, 0], [1, 0, 0, 0], [1], [1], [1, 0], [1, 0, 0], [1], [1], [1, 0], [1], [1], [1]], by decide +kernel, by decide +kernel⟩
theorem sid8YN : SidOk sidF8 [(1, 0, 1)] 1 := sidOk_of (tab := [[1], [1], [1, 0], [1, 0, 0], [1, 0, 0, 0], [1, 0, 0, 0, 0], [1, 0, 0, 0, 0, 0], [1, 0, 0, 0, 0, 0, 0], [1], [1], [1, 0], [1, 0, 0], [1, 0, 0, 0], [1, 0, 0, 0, 0], [1, 0, 0, 0, 0, 0], [1], [1], [1, 0], [1, 0, 0], [1, 0, 0, 0], [1, 0, 0, 0, 0], [1], [1], [1, 0], [1, 0, 0], [1, 0, 0, 0], [1], [1], [1, 0], [1, 0, 0], [1], [1], [1, 0], [1], [1], [1]]) (by decide +kernel) (by decide +kernel) (by decide +kernel)
theorem sid8YY : SidOk sidF8 [(1, 0, 1), (1, 2, 1)] 0 := sidOk_of (tab := [[1], [1], [0, 0], [0, 0, 0], [0, 0, 0, 0], [0, 0, 0, 0, 0], [0, 0, 0, 0, 0, 0], [0, 0, 0, 0, 0, 0, 0], [1], [1], [0, 0], [0, 0, 0], [0, 0, 0, 0], [0, 0, 0, 0, 0], [0, 0, 0, 0, 0, 0], [1], [1], [0, 0], [0, 0, 0], [0, 0, 0, 0], [0, 0, 0, 0, 0], [1], [1], [0, 0], [0, 0, 0], [0, 0, 0, 0], [1], [1], [0, 0], [0, 0, 0], [1], [1], [0, 0], [1], [1], [1]]) (by decide +kernel) (by decide +kernel) (by decide +kernel)
def sidF9 : Fo := ⟨[⟨0, 0, 1, [⟨0, [-1]⟩]⟩, ⟨0, 0, 3, [⟨1, [0, -2, 9]⟩]⟩, ⟨0, 0, 5, [⟨1, [0, -2, 10]⟩, ⟨1, [1, -4, 17]⟩]⟩, ⟨0, 0, 7, [⟨1, [0, -2, 11]⟩, ⟨1, [1, -4, 18]⟩, ⟨1, [2, -6, 24]⟩]⟩, ⟨0, 0, 9, [⟨1, [0, -2, 12]⟩, ⟨1, [1, -4, 19]⟩, ⟨1, [2, -6, 25]⟩, ⟨1, [3, -8, 30]⟩]⟩, ⟨0, 0, 11, [⟨1, [0, -2, 13]⟩, ⟨1, [1, -4, 20]⟩, ⟨1, [2, -6, 26]⟩, ⟨1, [3, -8, 31]⟩, ⟨1, [4, -10, 35]⟩]⟩, ⟨0, 0, 13, [⟨1, [0, -2, 14]⟩, ⟨1, [1, -4, 21]⟩, ⟨1, [2, -6, 27]⟩, ⟨1, [3, -8, 32]⟩, ⟨1, [4, -10, 36]⟩, ⟨1, [5, -12, 39]⟩]⟩, ⟨0, 0, 15, [⟨1, [0, -2, 15]⟩, ⟨1, [1, -4, 22]⟩, ⟨1, [2, -6, 28]⟩, ⟨1, [3, -8, 33]⟩, ⟨1, [4, -10, 37]⟩, ⟨1, [5, -12, 40]⟩, ⟨1, [6, -14, 42]⟩]⟩, ⟨0, 0, 17, [⟨1, [0, -2, 16]⟩, ⟨1, [1, -4, 23]⟩, ⟨1, [2, -6, 29]⟩, ⟨1, [3, -8, 34]⟩, ⟨1, [4, -10, 38]⟩, ⟨1, [5, -12, 41]⟩, ⟨1, [6, -14, 43]⟩, ⟨1, [7, -16, 44]⟩]⟩, ⟨0, 2, 3, [⟨0, [-3]⟩]⟩, ⟨0, 2, 5, [⟨1, [9, -4, 17]⟩]⟩, ⟨0, 2, 7, [⟨1, [9, -4, 18]⟩, ⟨1, [10, -6, 24]⟩]⟩, ⟨0, 2, 9, [⟨1, [9, -4, 19]⟩, ⟨1, [10, -6, 25]⟩, ⟨1, [11, -8, 30]⟩]⟩, ⟨0, 2, 11, [⟨1, [9, -4, 20]⟩, ⟨1, [10, -6, 26]⟩, ⟨1, [11, -8, 31]⟩, ⟨1, [12, -10, 35]⟩]⟩, ⟨0, 2, 13, [⟨1, [9, -4, 21]⟩, ⟨1, [10, -6, 27]⟩, ⟨1, [11, -8, 32]⟩, ⟨1, [12, -10, 36]⟩, ⟨1, [13, -12, 39]⟩]⟩, ⟨0, 2, 15, [⟨1, [9, -4, 22]⟩, ⟨1, [10, -6, 28]⟩, ⟨1, [11, -8, 33]⟩, ⟨1, [12, -10, 37]⟩, ⟨1, [13, -12, 40]⟩, ⟨1, [14, -14, 42]⟩]⟩, ⟨0, 2, 17, [⟨1, [9, -4, 23]⟩, ⟨1, [10, -6, 29]⟩, ⟨1, [11, -8, 34]⟩, ⟨1, [12, -10, 38]⟩, ⟨1, [13, -12, 41]⟩, ⟨1, [14, -14, 43]⟩, ⟨1, [15, -16, 44]⟩]⟩, ⟨0, 4, 5, [⟨0, [-5]⟩]⟩, ⟨0, 4, 7, [⟨1, [17, -6, 24]⟩]⟩, ⟨0, 4, 9, [⟨1, [17, -6, 25]⟩, ⟨1, [18, -8, 30]⟩]⟩, ⟨0, 4, 11, [⟨1, [17, -6, 26]⟩, ⟨1, [18, -8, 31]⟩, ⟨1, [19, -10, 35]⟩]⟩, ⟨0, 4, 13, [⟨1, [17, -6, 27]⟩, ⟨1, [18, -8, 32]⟩, ⟨1, [19, -10, 36]⟩, ⟨1, [20, -12, 39]⟩]⟩, ⟨0, 4, 15, [⟨1, [17, -6, 28]⟩, ⟨1, [18, -8, 33]⟩, ⟨1, [19, -10, 37]⟩, ⟨1, [20, -12, 40]⟩, ⟨1, [21, -14, 42]⟩]⟩, ⟨0, 4, 17, [⟨1, [17, -6, 29]⟩, ⟨1, [18, -8, 34]⟩, ⟨1, [19, -10, 38]⟩, ⟨1, [20, -12, 41]⟩, ⟨1, [21, -14, 43]⟩, ⟨1, [22, -16, 44]⟩]⟩, ⟨0, 6, 7, [⟨0, [-7]⟩]⟩, ⟨0, 6, 9, [⟨1, [24, -8, 30]⟩]⟩, ⟨0, 6, 11, [⟨1, [24, -8, 31]⟩, ⟨1, [25, -10, 35]⟩]⟩, ⟨0, 6, 13, [⟨1, [24, -8, 32]⟩, ⟨1, [25, -10, 36]⟩, ⟨1, [26, -12, 39]⟩]⟩, ⟨0, 6, 15, [⟨1, [24, -8, 33]⟩, ⟨1, [25, -10, 37]⟩, ⟨1, [26, -12, 40]⟩, ⟨1, [27, -14, 42]⟩]⟩, ⟨0, 6, 17, [⟨1, [24, -8, 34]⟩, ⟨1, [25, -10, 38]⟩, ⟨1, [26, -12, 41]⟩, ⟨1, [27, -14, 43]⟩, ⟨1, [28, -16, 44]⟩]⟩, ⟨0, 8, 9, [⟨0, [-9]⟩]⟩, ⟨0, 8, 11, [⟨1, [30, -10, 35]⟩]⟩, ⟨0, 8, 13, [⟨1, [30, -10, 36]⟩, ⟨1, [31, -12, 39]⟩]⟩, ⟨0, 8, 15, [⟨1, [30, -10, 37]⟩, ⟨1, [31, -12, 40]⟩, ⟨1, [32, -14, 42]⟩]⟩, ⟨0, 8, 17, [⟨1, [30, -10, 38]⟩, ⟨1, [31, -12, 41]⟩, ⟨1, [32, -14, 43]⟩, ⟨1, [33, -16, 44]⟩]⟩, ⟨0, 10, 11, [⟨0, [-11]⟩]⟩, ⟨0, 10, 13, [⟨1, [35, -12, 39]⟩]⟩, ⟨0, 10, 15, [⟨1, [35, -12, 40]⟩, ⟨1, [36, -14, 42]⟩]⟩, ⟨0, 10, 17, [⟨1, [35, -12, 41]⟩, ⟨1, [36, -14, 43]⟩, ⟨1, [37, -16, 44]⟩]⟩, ⟨0, 12, 13, [⟨0, [-13]⟩]⟩, ⟨0, 12, 15, [⟨1, [39, -14, 42]⟩]⟩, ⟨0, 12, 17, [⟨1, [39, -14, 43]⟩, ⟨1, [40, -16, 44]⟩]⟩, ⟨0, 14, 15, [⟨0, [-15]⟩]⟩, ⟨0, 14, 17, [⟨1, [42, -16, 44]⟩]⟩, ⟨0, 16, 17, [⟨0, [-17]⟩]⟩], 8⟩
theorem sidB9 : (buildF gS (ksS 8) 5000).1 = some sidF9 := isF_some (by decide +kernel)
theorem sid9NN : SidOk sidF9 [] 1430 := sidOk_of (tab := [[1], [1], [1, 1], [2, 1, 2], [5, 2, 2, 5], [14, 5, 4, 5, 14], [42, 14, 10, 10, 14, 42], [132, 42, 28, 25, 28, 42, 132], [429, 132, 84, 70, 70, 84, 132, 429], [1], [1], [1, 1], [2, 1, 2], [5, 2, 2, 5], [14, 5, 4, 5, 14], [42, 14, 10, 10, 14, 42], [132, 42, 28, 25, 28, 42, 132], [1], [1], [1, 1], [2, 1, 2], [5, 2, 2, 5], [14, 5, 4, 5, 14], [42, 14, 10, 10, 14, 42], [1], [1], [1, 1], [2, 1, 2], [5, 2, 2, 5], [14, 5, 4, 5, 14], [1], [1], [1, 1], [2, 1, 2], [5, 2, 2, 5], [1], [1], [1, 1], [2, 1, 2], [1], [1], [1, 1], [1], [1], [1]]) (by decide +kernel) (by decide +kernel) (by decide +kernel)
theorem one9NY : SidOne sidF9 [(1, 2, 1)] := ⟨[[1], [1], [0, 1], [0, 0, 1], [0, 0, 0, 1], [0, 0, 0, 0, 1], [0, 0, 0, 0, 0, 1], [0, 0, 0, 0, 0, 0, 1], [0, 0, 0, 0, 0, 0, 0, 1], [1], [1], [0, 1], [0, 0, 1], [0, 0, 0, 1], [0, 0, 0, 0, 1], [0, 0, 0, 0, 0, 1], [0, 0, 0, 0, 0, 0, 1], [1], [1], [0, 1], [0, 0, 1], [0, 0, 0, 1], [0, 0, 0, 0, 1], [0, 0, 0, 0, 0, 1], [1], [1], [0, 1], [0, 0, 1], [0, 0, 0, 1], [0, 0, 0, 0, 1], [1], [1], [0, 1], [0, 0, 1], [0, 0, 0, 1], [1], [1], [0, 1], [0, 0, 1], [1], [1], [0, 1], [1], [1], [1]], by decide +kernel, by decide +kernel⟩
theorem sid9NY : SidOk sidF9 [(1, 2, 1)] 1 := sidOk_of (tab := [[1], [1], [0, 1], [0, 0, 1], [0, 0, 0, 1], [0, 0, 0, 0, 1], [0, 0, 0, 0, 0, 1], [0, 0, 0, 0, 0, 0, 1], [0, 0, 0, 0, 0, 0, 0, 1], [1], [1], [0, 1], [0, 0, 1], [0, 0, 0, 1], [0, 0, 0, 0, 1], [0, 0, 0, 0, 0, 1], [0, 0, 0, 0, 0, 0, 1], [1], [1], [0, 1], [0, 0, 1], [0, 0, 0, 1], [0, 0, 0, 0, 1], [0, 0, 0, 0, 0, 1], [1], [1], [0, 1], [0, 0, 1], [0, 0, 0, 1], [0, 0, 0, 0, 1], [1], [1], [0, 1], [0, 0, 1], [0, 0, 0, 1], [1], [1], [0, 1], [0, 0, 1], [1], [1], [0, 1], [1], [1], [1]]) (by decide +kernel) (by decide +kernel) (by decide +kernel)
theorem one9YN : SidOne sidF9 [(1, 0, 1)] := ⟨[[1], [1], [1, 0], [1, 0, 0], [1, 0, 0, 0], [1, 0, 0, 0, 0], [1, 0, 0, 0, 0, 0], [1, 0, 0, 0, 0, 0, 0], [1, 0, 0, 0, 0, 0, 0, 0], [1], [1], [1, 0], [1, 0, 0], [1, 0, 0, 0], [1, 0, 0, 0, 0], [1, 0, 0, 0, 0, 0], [1, 0, 0, 0, 0, 0, 0], [1], [1], [1, 0], [1, 0, 0], [1, 0, 0, 0], [1, 0, 0, 0, 0], [1, 0, 0, 0, 0, 0], [1], [1], [1, 0], [1, 0, 0], [1, 0, 0, 0], [1, 0, 0, 0, 0], [1], [1], [1, 0], [1, 0, 0], [1, 0, 0, 0], [1], [1], [1, 0], [1, 0, 0], [1], [1], [1, 0], [1], [1], [1]], by decide +kernel, by decide +kernel⟩
theorem sid9YN : SidOk sidF9 [(1, 0, 1)] 1 := sidOk_of (tab := [[1], [1], [1, 0], [1, 0, 0], [1, 0, 0, 0], [1, 0, 0, 0, 0], [1, 0, 0, 0, 0, 0], [1, 0, 0, 0, 0, 0, 0], [1, 0, 0, 0, 0, 0, 0, 0], [1], [1], [1, 0], [1, 0, 0], [1, 0, 0, 0], [1, 0, 0, 0, 0], [1, 0, 0, 0, 0, 0], [1, 0, 0, 0, 0, 0, 0], [1], [1], [1, 0], [1, 0, 0], [1, 0, 0, 0], [1, 0, 0, 0, 0], [1, 0, 0, 0, 0, 0], [1], [1], [1, 0], [1, 0, 0], [1, 0, 0, 0], [1, 0, 0, 0, 0], [1], [1], [1, 0], [1, 0, 0], [1, 0, 0, 0], [1], [1], [1, 0], [1, 0, 0], [1], [1], [1, 0], [1], [1], [1]]) (by decide +kernel) (by decide +kernel) (by decide +kernel)
theorem sid9YY : SidOk sidF9 [(1, 0, 1), (1, 2, 1)] 0 := sidOk_of (tab := [[1], [1], [0, 0], [0, 0, 0], [0, 0, 0, 0], [0, 0, 0, 0, 0], [0, 0, 0, 0, 0, 0], [0, 0, 0, 0, 0, 0, 0], [0, 0, 0, 0, 0, 0, 0, 0], [1], [1], [0, 0], [0, 0, 0], [0, 0, 0, 0], [0, 0, 0, 0, 0], [0, 0, 0, 0, 0, 0], [0, 0, 0, 0, 0, 0, 0], [1], [1], [0, 0], [0, 0, 0], [0, 0, 0, 0], [0, 0, 0, 0, 0], [0, 0, 0, 0, 0, 0], [1], [1], [0, 0], [0, 0, 0], [0, 0, 0, 0], [0, 0, 0, 0, 0], [1], [1], [0, 0], [0, 0, 0], [0, 0, 0, 0], [1], [1], [0, 0], [0, 0, 0], [1], [1], [0, 0], [1], [1], [1]]) (by decide +kernel) (by decide +kernel) (by decide +kernel)
theorem sid_chk : chkF gS = 0 := by decide +kernel
theorem sid_all {m : Nat} (h1 : 1 ≤ m) (h9 : m ≤ 9) (l r : Bool) : ∃ f, (buildF gS (ksS (m - 1)) 5000).1 = some f ∧ SidOk f (fbOf l r) (wantF m l r) := by
  match m, h1, h9 with
  | 1, _, _ => exact ⟨sidF1, sidB1, match l, r with | false, false => sid1NN | false, true => sid1NY | true, false => sid1YN | true, true => sid1YY⟩
  | 2, _, _ => exact ⟨sidF2, sidB2, match l, r with | false, false => sid2NN | false, true => sid2NY | true, false => sid2YN | true, true => sid2YY⟩
  | 3, _, _ => exact ⟨sidF3, sidB3, match l, r with | false, false => sid3NN | false, true => sid3NY | true, false => sid3YN | true, true => sid3YY⟩
  | 4, _, _ => exact ⟨sidF4, sidB4, match l, r with | false, false => sid4NN | false, true => sid4NY | true, false => sid4YN | true, true => sid4YY⟩
  | 5, _, _ => exact ⟨sidF5, sidB5, match l, r with | false, false => sid5NN | false, true => sid5NY | true, false => sid5YN | true, true => sid5YY⟩
  | 6, _, _ => exact ⟨sidF6, sidB6, match l, r with | false, false => sid6NN | false, true => sid6NY | true, false => sid6YN | true, true => sid6YY⟩
  | 7, _, _ => exact ⟨sidF7, sidB7, match l, r with | false, false => sid7NN | false, true => sid7NY | true, false => sid7YN | true, true => sid7YY⟩
  | 8, _, _ => exact ⟨sidF8, sidB8, match l, r with | false, false => sid8NN | false, true => sid8NY | true, false => sid8YN | true, true => sid8YY⟩
  | 9, _, _ => exact ⟨sidF9, sidB9, match l, r with | false, false => sid9NN | false, true => sid9NY | true, false => sid9YN | true, true => sid9YY⟩
theorem one_all {m : Nat} (h1 : 1 ≤ m) (h9 : m ≤ 9) (r : Bool) : ∃ f, (buildF gS (ksS (m - 1)) 5000).1 = some f ∧ SidOne f (fbS r) ∧ SidOk f (fbS r) 1 := by
  match m, h1, h9 with
  | 1, _, _ => exact ⟨sidF1, sidB1, match r with | false => ⟨one1NY, sid1NY⟩ | true => ⟨one1YN, sid1YN⟩⟩
  | 2, _, _ => exact ⟨sidF2, sidB2, match r with | false => ⟨one2NY, sid2NY⟩ | true => ⟨one2YN, sid2YN⟩⟩
  | 3, _, _ => exact ⟨sidF3, sidB3, match r with | false => ⟨one3NY, sid3NY⟩ | true => ⟨one3YN, sid3YN⟩⟩
  | 4, _, _ => exact ⟨sidF4, sidB4, match r with | false => ⟨one4NY, sid4NY⟩ | true => ⟨one4YN, sid4YN⟩⟩
  | 5, _, _ => exact ⟨sidF5, sidB5, match r with | false => ⟨one5NY, sid5NY⟩ | true => ⟨one5YN, sid5YN⟩⟩
  | 6, _, _ => exact ⟨sidF6, sidB6, match r with | false => ⟨one6NY, sid6NY⟩ | true => ⟨one6YN, sid6YN⟩⟩
  | 7, _, _ => exact ⟨sidF7, sidB7, match r with | false => ⟨one7NY, sid7NY⟩ | true => ⟨one7YN, sid7YN⟩⟩
  | 8, _, _ => exact ⟨sidF8, sidB8, match r with | false => ⟨one8NY, sid8NY⟩ | true => ⟨one8YN, sid8YN⟩⟩
  | 9, _, _ => exact ⟨sidF9, sidB9, match r with | false => ⟨one9NY, sid9NY⟩ | true => ⟨one9YN, sid9YN⟩⟩
end Go.Proofs.Ytbnhmioijeagiaa.Ab
/- Rows by a sign that may not stand on one of its sides: what its trees are, and that there is a best one. No condition. -/
set_option linter.unusedVariables false
set_option linter.unusedSimpArgs false
set_option maxRecDepth 100000
namespace Go.Proofs.Ytbnhmioijeagiaa.Ab

def gH (fb : List F3) (d : Int) : Gr := ⟨1, 2, 0, [⟨0, [-1], 0⟩, ⟨0, [0, -2, 0], d⟩], fb, [], []⟩
theorem gH_ok {fb : List F3} {d : Int} (h : fb.length ≤ 2) : GrOk (gH fb d) := by
  refine ⟨by show ([] : List Int).length ≤ _; decide, by show ([] : List Int).length ≤ _; decide, by show fb.length ≤ _; omega, by show 2 ≤ _; decide, ?_⟩
  intro r hr
  have hr : r ∈ [(⟨0, [-1], 0⟩ : Ru), ⟨0, [0, -2, 0], d⟩] := hr
  simp only [List.mem_cons, List.not_mem_nil, or_false] at hr
  rcases hr with rfl | rfl
  · exact ⟨by decide, fun s hs => by simp at hs; subst hs; unfold rng; omega⟩
  · exact ⟨by show ([0, -2, 0] : List Int).length ≤ _; decide, fun s hs => by simp at hs; unfold rng; omega⟩
theorem gH_form {r : Bool} {d : Int} (h0 : -1000 ≤ d) (h1 : d ≤ 1000) : formF (gH (fbS r) d) = (-1, 0) := by
  have hw : wholeF (gH (fbS r) d) = 0 := by cases r <;> kernel_rfl
  have a1 : ruleF (gH (fbS r) d) ⟨0, [-1], 0⟩ = 0 := by cases r <;> kernel_rfl
  have a2 : ruleF (gH (fbS r) d) ⟨0, [0, -2, 0], d⟩ = 0 := by
    unfold ruleF
    rw [if_neg (of_decide_eq_false (by cases r <;> kernel_rfl)), if_neg (of_decide_eq_false (by cases r <;> kernel_rfl)), if_neg (by simp only; omega)]
  have a3 : rulesF (gH (fbS r) d) 0 (gH (fbS r) d).rules = none := by
    show rulesF (gH (fbS r) d) 0 [⟨0, [-1], 0⟩, ⟨0, [0, -2, 0], d⟩] = none
    rw [rulesF, a1, rulesF, a2]
    rfl
  unfold formF
  rw [hw, a3]
  have a4 : ((gH (fbS r) d).forbid.any fun f => !decide (forbOk (gH (fbS r) d) f)) = false := by cases r <;> kernel_rfl
  simp only [ne_eq, not_true_eq_false, if_false, a4]
  rfl
theorem gH_chk {r : Bool} {d : Int} (h0 : -1000 ≤ d) (h1 : d ≤ 1000) : chkF (gH (fbS r) d) = 0 := by
  have hf := gH_form (r := r) h0 h1
  have a1 : (List.range (gH (fbS r) d).names.toNat).any (useless (gH (fbS r) d) (gH (fbS r) d).names.toNat) = false := by cases r <;> kernel_rfl
  have a2 : (cycF (gH (fbS r) d) (gH (fbS r) d).names.toNat).any id = false := by cases r <;> kernel_rfl
  unfold chkF
  rw [hf, a1, a2]
  rfl
theorem gH_rule (fb : List F3) (d : Int) (j : Int) : (ruleAt (gH fb d) j).left = (ruleAt gS j).left ∧ (ruleAt (gH fb d) j).right = (ruleAt gS j).right := by
  unfold ruleAt
  show (([⟨0, [-1], 0⟩, ⟨0, [0, -2, 0], d⟩] : List Ru).getD j.toNat ruD).left = (([⟨0, [-1], 0⟩, ⟨0, [0, -2, 0], 0⟩] : List Ru).getD j.toNat ruD).left ∧ (([⟨0, [-1], 0⟩, ⟨0, [0, -2, 0], d⟩] : List Ru).getD j.toNat ruD).right = (([⟨0, [-1], 0⟩, ⟨0, [0, -2, 0], 0⟩] : List Ru).getD j.toNat ruD).right
  match j.toNat with
  | 0 => exact ⟨rfl, rfl⟩
  | 1 => exact ⟨rfl, rfl⟩
  | n + 2 => simp
theorem gH_mineS (fb : List F3) (d : Int) : mineS (gH fb d) = mineS gS := by
  funext ks n F lim k x j
  unfold mineS
  rw [(gH_rule fb d j).1, (gH_rule fb d j).2]
theorem gH_mineF (fb : List F3) (d : Int) : mineF (gH fb d) = mineF gS := by
  funext ks n F lim k c
  unfold mineF
  rw [gH_mineS]
  rfl
theorem gH_bldQ (fb : List F3) (d : Int) {ks : List Int} {n : Nat} {F : List (List Bool)} {lim : Nat} : ∀ (q i : Nat) (keys : List Ky) (all : List (List Wy)) (c : Nat), bldQ (gH fb d) ks n F lim q i keys all c = bldQ gS ks n F lim q i keys all c
  | 0, _, _, _, _ => rfl
  | q + 1, i, keys, all, c => by
    rw [bldQ, bldQ, gH_mineF]
    cases keys[i]? with
    | none => rfl
    | some k =>
      simp only
      split
      · rfl
      · exact gH_bldQ fb d q _ _ _ _
theorem gH_chF (fb : List F3) (d : Int) : chF (gH fb d) = chF gS := by
  have h1 : ∀ ks n x, chR ks n x ⟨0, [0, -2, 0], d⟩ = chR ks n x ⟨0, [0, -2, 0], 0⟩ := fun ks n x => rfl
  have h2 : chI (gH fb d) = chI gS := by
    funext ks n F
    unfold chI
    show List.foldl (chR ks n) (F, false) [⟨0, [-1], 0⟩, ⟨0, [0, -2, 0], d⟩] = List.foldl (chR ks n) (F, false) [⟨0, [-1], 0⟩, ⟨0, [0, -2, 0], 0⟩]
    simp only [List.foldl_cons, List.foldl_nil, h1]
  funext ks N n
  unfold chF
  rw [h2]
theorem gH_build (fb : List F3) (d : Int) (ks : List Int) (lim : Nat) : buildF (gH fb d) ks lim = buildF gS ks lim := by
  unfold buildF
  rw [gH_chF]
  simp only [gH_bldQ]
  rfl
theorem gH_dyn (fb : List F3) (d r : Int) : dynF (gH fb d) r = if r = 1 then d else 0 := by
  unfold dynF
  show (if 0 ≤ r ∧ r < 2 then (ruleAt (gH fb d) r).dyn else 0) = _
  by_cases h : 0 ≤ r ∧ r < 2
  · rw [if_pos h]
    have : r = 0 ∨ r = 1 := by omega
    rcases this with rfl | rfl <;> rfl
  · rw [if_neg h, if_neg (by omega)]
/-- The tree that leans to one side. -/
def CombT (r : Bool) : Nat → Tr → Prop
  | 0, t => t.rule = 0
  | m + 1, t => t.rule = 1 ∧ ∃ x y z, t.kids = [x, y, z] ∧ CombT r m (if r then z else x)
theorem dv_leaf {g : Gr} {ks : List Int} {s : Int} {t : Tr} (h : Dv g ks s t) (hs : s < 0) : t.rule = -1 ∧ (yieldF t).length = 1 ∧ rulesT t = [] ∧ trSize t = 1 := by
  cases h with
  | leaf h0 hi hk => exact ⟨rfl, by rw [yieldF_eq]; rfl, by rw [rulesT]; rfl, rfl⟩
  | node hj h0 hl hk => omega
theorem dv_cases' {fb : List F3} {d s : Int} {ks : List Int} {t : Tr} (h : Dv (gH fb d) ks s t) (hs : s = 0) : (t.rule = 0 ∧ (yieldF t).length = 1 ∧ rulesT t = [0]) ∨ ∃ x y z, t.rule = 1 ∧ t.kids = [x, y, z] ∧ Dv (gH fb d) ks 0 x ∧ Dv (gH fb d) ks 0 z ∧ y.rule = -1 ∧ (yieldF t).length = (yieldF x).length + 1 + (yieldF z).length ∧ rulesT t = 1 :: (rulesT x ++ rulesT z) := by
  cases h with
  | leaf h0 hi hk => omega
  | @node j kids hj h0 hl hk =>
    have hj : j < 2 := hj
    have : j = 0 ∨ j = 1 := by omega
    rcases this with rfl | rfl
    · have hl : kids.length = 1 := hl
      obtain ⟨x, rfl⟩ := List.length_eq_one_iff.1 hl
      have hx := hk 0 x rfl
      have hx : Dv (gH fb d) ks (-1) x := hx
      obtain ⟨a1, a2, a3, _⟩ := dv_leaf hx (by decide)
      refine .inl ⟨rfl, ?_, ?_⟩
      · rw [yieldF_eq]; simp [Tr.rule, Tr.kids, yieldsF, a2]
      · rw [rulesT]; simp [rulessT, a3]
    · have hl : kids.length = 3 := hl
      obtain ⟨x, y, z, rfl⟩ : ∃ x y z, kids = [x, y, z] := by
        match kids, hl with
        | [x, y, z], _ => exact ⟨x, y, z, rfl⟩
      have hx : Dv (gH fb d) ks 0 x := hk 0 x rfl
      have hy : Dv (gH fb d) ks (-2) y := hk 1 y rfl
      have hz : Dv (gH fb d) ks 0 z := hk 2 z rfl
      obtain ⟨a1, a2, a3, _⟩ := dv_leaf hy (by decide)
      refine .inr ⟨x, y, z, rfl, rfl, hx, hz, a1, ?_, ?_⟩
      · rw [yieldF_eq]; simp [Tr.rule, Tr.kids, yieldsF, a2]; omega
      · rw [rulesT]; simp [rulessT, a3]
theorem dv_cases {fb : List F3} {d : Int} {ks : List Int} {t : Tr} (h : Dv (gH fb d) ks 0 t) : (t.rule = 0 ∧ (yieldF t).length = 1 ∧ rulesT t = [0]) ∨ ∃ x y z, t.rule = 1 ∧ t.kids = [x, y, z] ∧ Dv (gH fb d) ks 0 x ∧ Dv (gH fb d) ks 0 z ∧ y.rule = -1 ∧ (yieldF t).length = (yieldF x).length + 1 + (yieldF z).length ∧ rulesT t = 1 :: (rulesT x ++ rulesT z) := dv_cases' h rfl
theorem dv_pos' {fb : List F3} {d : Int} {ks : List Int} : ∀ (t : Tr) (s : Int), s = 0 → Dv (gH fb d) ks s t → 1 ≤ (yieldF t).length ∧ trSize t ≤ 2 * (yieldF t).length ∧ (yieldF t).length % 2 = 1 := by
  refine Tr.ind fun t ih s hs h => ?_
  cases h with
  | leaf h0 hi hk => omega
  | @node j kids hj h0 hl hk =>
    have hj : j < 2 := hj
    have : j = 0 ∨ j = 1 := by omega
    rcases this with rfl | rfl
    · have hl : kids.length = 1 := hl
      obtain ⟨x, rfl⟩ := List.length_eq_one_iff.1 hl
      have hx : Dv (gH fb d) ks (-1) x := hk 0 x rfl
      obtain ⟨a1, a2, a3, a4⟩ := dv_leaf hx (by decide)
      have e : (yieldF (Tr.mk ((0 : Nat) : Int) 0 [x])).length = 1 := by rw [yieldF_eq]; simp [Tr.rule, Tr.kids, yieldsF, a2]
      have e2 : trSize (Tr.mk ((0 : Nat) : Int) 0 [x]) = 2 := by simp [trSize, trsSize, a4]
      rw [e, e2]; omega
    · have hl : kids.length = 3 := hl
      obtain ⟨x, y, z, rfl⟩ : ∃ x y z, kids = [x, y, z] := by
        match kids, hl with
        | [x, y, z], _ => exact ⟨x, y, z, rfl⟩
      have hx : Dv (gH fb d) ks 0 x := hk 0 x rfl
      have hy : Dv (gH fb d) ks (-2) y := hk 1 y rfl
      have hz : Dv (gH fb d) ks 0 z := hk 2 z rfl
      have i1 := ih x (by simp [Tr.kids]) 0 rfl hx
      have i2 := ih z (by simp [Tr.kids]) 0 rfl hz
      obtain ⟨a1, a2, a3, a4⟩ := dv_leaf hy (by decide)
      have e : (yieldF (Tr.mk ((1 : Nat) : Int) 0 [x, y, z])).length = (yieldF x).length + 1 + (yieldF z).length := by
        rw [yieldF_eq]; simp [Tr.rule, Tr.kids, yieldsF, a2]; omega
      have e2 : trSize (Tr.mk ((1 : Nat) : Int) 0 [x, y, z]) = 1 + (trSize x + (1 + trSize z)) := by simp [trSize, trsSize, a4]
      rw [e, e2]; omega
theorem dv_pos {fb : List F3} {d : Int} {ks : List Int} (t : Tr) (h : Dv (gH fb d) ks 0 t) : 1 ≤ (yieldF t).length ∧ trSize t ≤ 2 * (yieldF t).length ∧ (yieldF t).length % 2 = 1 := dv_pos' t 0 rfl h
theorem comb_is {r : Bool} {d : Int} {ks : List Int} : ∀ (m : Nat) (t : Tr), Dv (gH (fbS r) d) ks 0 t → mayB (fbS r) t = true → (yieldF t).length = 2 * m + 1 → CombT r m t ∧ wtT (gH (fbS r) d) t = d * m
  | 0, t, h, hm, hy => by
    rcases dv_cases h with ⟨h1, h2, h3⟩ | ⟨x, y, z, h1, h2, h3, h4, h5, h6, h7⟩
    · refine ⟨h1, ?_⟩
      unfold wtT
      rw [h3, sumD, sumD, gH_dyn]
      simp
    · have := dv_pos x h3
      have := dv_pos z h4
      omega
  | m + 1, t, h, hm, hy => by
    rcases dv_cases h with ⟨h1, h2, h3⟩ | ⟨x, y, z, h1, h2, h3, h4, h5, h6, h7⟩
    · omega
    · have hp1 := dv_pos x h3
      have hp2 := dv_pos z h4
      rw [mayB_eq, h1, h2] at hm
      simp only [maysB, Bool.and_eq_true, Bool.or_eq_true, decide_eq_true_eq, Bool.not_eq_true', decide_eq_false_iff_not, and_true] at hm
      rcases hm with hm | ⟨⟨hm1, hm2⟩, ⟨hm3, hm4⟩, hm5, hm6⟩
      · omega
      have hone : ∀ u, Dv (gH (fbS r) d) ks 0 u → u.rule ≠ 1 → (yieldF u).length = 1 ∧ rulesT u = [0] := by
        intro u hu hne
        rcases dv_cases hu with ⟨_, g2, g3⟩ | ⟨_, _, _, g1, _⟩
        · exact ⟨g2, g3⟩
        · exact absurd g1 hne
      have hwt : wtT (gH (fbS r) d) t = d + (sumD (gH (fbS r) d) (rulesT x) + sumD (gH (fbS r) d) (rulesT z)) := by
        unfold wtT
        rw [h7, sumD, sumD_app, gH_dyn]
        rfl
      have hz0 : sumD (gH (fbS r) d) [0] = 0 := by rw [sumD, sumD, gH_dyn]; simp
      cases r with
      | false =>
        obtain ⟨g1, g2⟩ := hone z h4 (fun e => hm5 ⟨by omega, by rw [e]; simp [fbS]⟩)
        obtain ⟨c1, c2⟩ := comb_is m x h3 hm2 (by omega)
        refine ⟨⟨h1, x, y, z, h2, c1⟩, ?_⟩
        unfold wtT at c2
        rw [hwt, c2, g2, hz0]
        rw [Int.natCast_add, Int.mul_add]
        simp
        omega
      | true =>
        obtain ⟨g1, g2⟩ := hone x h3 (fun e => hm1 ⟨by omega, by rw [e]; simp [fbS]⟩)
        obtain ⟨c1, c2⟩ := comb_is m z h4 hm6 (by omega)
        refine ⟨⟨h1, x, y, z, h2, c1⟩, ?_⟩
        unfold wtT at c2
        rw [hwt, c2, g2, hz0]
        rw [Int.natCast_add, Int.mul_add]
        simp
        omega
end Go.Proofs.Ytbnhmioijeagiaa.Ab
/- The forests of rows by a sign are the grammar's. No condition. -/
set_option linter.unusedVariables false
set_option linter.unusedSimpArgs false
set_option maxRecDepth 100000
namespace Go.Proofs.Ytbnhmioijeagiaa.Ab

theorem wh_all {m : Nat} (h1 : 1 ≤ m) (h9 : m ≤ 9) : ∃ f, (buildF gS (ksS (m - 1)) 5000).1 = some f ∧ wholeB gS f = true := by
  match m, h1, h9 with
  | 1, _, _ => exact ⟨sidF1, sidB1, by decide +kernel⟩
  | 2, _, _ => exact ⟨sidF2, sidB2, by decide +kernel⟩
  | 3, _, _ => exact ⟨sidF3, sidB3, by decide +kernel⟩
  | 4, _, _ => exact ⟨sidF4, sidB4, by decide +kernel⟩
  | 5, _, _ => exact ⟨sidF5, sidB5, by decide +kernel⟩
  | 6, _, _ => exact ⟨sidF6, sidB6, by decide +kernel⟩
  | 7, _, _ => exact ⟨sidF7, sidB7, by decide +kernel⟩
  | 8, _, _ => exact ⟨sidF8, sidB8, by decide +kernel⟩
  | 9, _, _ => exact ⟨sidF9, sidB9, by decide +kernel⟩
end Go.Proofs.Ytbnhmioijeagiaa.Ab
/- Lists of numbers compared, pulled out of Set6 (printed by genchk.py) -/
set_option linter.unusedVariables false
set_option linter.unusedSimpArgs false
namespace Go.Proofs.Ytbnhmioijeagiaa.Ab
attribute [local irreducible] thenA inBlockA ACode AOps put IntKind.wrap

theorem sameInts_calls {a b : List Int} (ha : a.length ≤ 9223372036854775807) (hb : b.length ≤ 9223372036854775807) (M : List Ob) : ACalls Try.prog 27 [.psl a.length (ints a), .psl b.length (ints b)] M (fun r M' => r = .bool (decide (a = b)) ∧ M' = M) := by
  refine acalls_of_code 26 Try.func27 rfl rfl rfl ?_
  repeat' (first | refine aops_end ?_ | (refine aops_pn tok rfl rfl rfl rfl ?_ ?_ <;> intro e_) | refine aops_p tok rfl rfl rfl rfl ?_ | refine acode_it rfl ?_ | refine acode_if rfl ?_ | refine acode_seq ?_ | refine acode_region ?_ | refine acode_block ?_ | refine acode_skip ?_ | refine then_n ?_)
  · refine acode_ret ?_
    repeat (refine ret_then ?_)
    exact ⟨.bool (decide (a = b)), ⟨rfl, rfl⟩, resOf_tmp (bf (fun h => by subst h; exact e_ rfl))⟩
  have hab : a.length = b.length := by omega
  clear e_
  refine acode_loopS (ι := Nat) (fun i => [(0, .psl a.length (ints a)), (1, .psl b.length (ints b)), (5, .int .i64 i)]) (fun _ => M) (fun i => a.length - i) (fun i => i ≤ a.length ∧ a.take i = b.take i) 0 ⟨Nat.zero_le _, by simp⟩ ⟨rfl, rfl, rfl, trivial⟩ rfl ?_
  rintro i ⟨hi, hn⟩
  repeat (first | refine aops_end ?_ | refine aops_p tok rfl rfl rfl rfl ?_ | refine acode_seq ?_ | refine acode_region ?_)
  refine acode_id rfl (fun e => ?_) (fun e => ?_)
  · have hlt : i < a.length := by omega
    obtain ⟨x, hx⟩ : ∃ x, a[i]? = some x := ⟨a[i], List.getElem?_eq_getElem hlt⟩
    obtain ⟨y, hy⟩ : ∃ y, b[i]? = some y := ⟨b[i], List.getElem?_eq_getElem (by omega)⟩
    repeat (first | refine acode_seq ?_ | refine acode_block ?_ | refine acode_skip ?_ | refine then_n ?_)
    refine acode_drawT 9 mixed (by kernel_rfl) (by kernel_rfl) ?_
    repeat (refine seqT_p tok rfl rfl rfl rfl ?_)
    refine seqT_ix tok [A.int .i64 x] rfl rfl rfl rfl (by omega) (by omega) (by simp) (ints_at (j := i) (by simpa using hx)) rfl rfl rfl ?_
    repeat (refine seqT_p tok rfl rfl rfl rfl ?_)
    refine seqT_ix tok [A.int .i64 y] rfl rfl rfl rfl (by omega) (by omega) (by simp) (ints_at (j := i) (by simpa using hy)) rfl rfl rfl ?_
    repeat' (first | (refine seqT_pn tok rfl rfl rfl rfl ?_ ?_ <;> intro e_) | refine seqT_p tok rfl rfl rfl rfl ?_)
    · refine SeqT.done ?_
      repeat' (first | refine aops_end ?_ | refine aops_p tok rfl rfl rfl rfl ?_ | refine acode_it rfl ?_ | refine acode_seq ?_ | refine acode_region ?_)
      refine acode_ret ?_
      repeat (first | refine ret_then ?_ | refine ret_block ?_)
      exact ⟨.bool (decide (a = b)), ⟨rfl, rfl⟩, resOf_tmp (bf (fun h => by subst h; rw [hx] at hy; exact e_ (Option.some.inj hy)))⟩
    · refine SeqT.done ?_
      repeat' (first | refine aops_end ?_ | refine aops_a tok rfl (by omega) (by omega) rfl rfl rfl ?_ | refine aops_p tok rfl rfl rfl rfl ?_ | refine acode_if rfl ?_ | refine acode_region ?_ | refine acode_skip ?_ | refine then_n ?_ | refine block_n ?_)
      refine ⟨i + 1, ⟨by omega, ?_⟩, by omega, ⟨rfl, rfl, rfl, trivial⟩, rfl⟩
      rw [List.take_add_one, List.take_add_one, hn, hx, hy, e_]
  · have hge : i = a.length := by omega
    subst hge
    rw [List.take_length, hab, List.take_length] at hn
    refine acode_exit ?_
    repeat (first | refine exit_then ?_ | refine exit_here ?_ | refine then_n ?_)
    repeat (first | refine aops_end ?_ | refine aops_p tok rfl rfl rfl rfl ?_ | refine acode_seq ?_ | refine acode_region ?_)
    refine acode_ret ?_
    skip
    exact ⟨.bool (decide (a = b)), ⟨rfl, rfl⟩, resOf_tmp (bt hn)⟩
end Go.Proofs.Ytbnhmioijeagiaa.Ab
/- Package choose's Weight and the reference's Yield: the walk. No condition. -/
set_option linter.unusedVariables false
set_option linter.unusedSimpArgs false
namespace Go.Proofs.Ytbnhmioijeagiaa.Ab
attribute [local irreducible] thenA inBlockA ACode AOps put IntKind.wrap

theorem rulesT_eq (t : Tr) : rulesT t = if t.rule = -1 then [] else t.rule :: rulessT t.kids := by cases t; rw [rulesT]; rfl
theorem rules_step {l : List Tr} {i : Nat} {x : Tr} (hx : l[i]? = some x) : rulessT (l.drop i) = rulesT x ++ rulessT (l.drop (i + 1)) := by rw [drop_at hx, rulessT]
mutual
theorem rulesT_len : ∀ t : Tr, (rulesT t).length ≤ trSize t
  | .mk r t ks => by
    have := rulessT_len ks
    rw [rulesT, trSize]
    split
    · simp
    · rw [List.length_cons]; omega
theorem rulessT_len : ∀ ts : List Tr, (rulessT ts).length ≤ trsSize ts
  | [] => by simp [rulessT, trsSize]
  | t :: ts => by
    have := rulesT_len t
    have := rulessT_len ts
    rw [rulessT, trsSize, List.length_append]; omega
end
set_option maxHeartbeats 2000000 in
theorem urules0_calls : ∀ (t : Tr) (l : List Int), trSize t + l.length ≤ 1000000000 → ∀ (ob : Option Nat) (cap : Nat) (M : List Ob), ACalls Try.prog 93 [.own ob l.length cap, trA t] (⟨ob, cap * 1, ints l⟩ :: M) (fun r M' => ∃ ob' cap', r = .own ob' (l ++ rulesT t).length cap' ∧ M' = ⟨ob', cap' * 1, ints (l ++ rulesT t)⟩ :: M) := by
  refine Tr.ind fun t ih l hsz ob cap M => ?_
  rw [trSize_eq] at hsz
  have hkl := trsSize_len t.kids
  rw [rulesT_eq]
  refine acalls_of_code 28 Try.func93 rfl rfl rfl ?_
  repeat (first | refine acode_seq ?_ | refine acode_region ?_)
  refine aops_boxf rfl rfl rfl rfl rfl rfl rfl ?_
  repeat' (first | refine aops_end ?_ | (refine aops_pd tok rfl rfl rfl rfl ?_ ?_ <;> intro e_) | refine aops_p tok rfl rfl rfl rfl ?_ | refine acode_it rfl ?_ | refine acode_if rfl ?_ | refine acode_seq ?_ | refine acode_region ?_ | refine acode_skip ?_ | refine then_n ?_)
  · rw [if_pos e_]
    refine acode_ret ?_
    repeat (refine ret_then ?_)
    exact ⟨_, ⟨ob, cap, rfl, by rw [List.append_nil]⟩, resOf_tmp (by rw [List.append_nil]; rfl)⟩
  · rw [if_neg e_]
    refine aops_litn tok rfl rfl rfl rfl rfl rfl rfl ?_
    refine aops_append tok 0 (m := 1) (ds := ints [t.rule]) rfl rfl rfl (.inl rfl) rfl rfl (by rw [ints_len]; exact (Nat.mul_one _).symm) rfl rfl rfl (by show _ * 8 ≤ _; omega) (by omega) rfl rfl fun ob1 cap1 => ?_
    repeat (first | refine aops_put rfl ?_ | refine aops_end ?_ | refine aops_p tok rfl rfl rfl rfl ?_ | refine acode_seq ?_ | refine acode_region ?_ | refine acode_block ?_)
    refine acode_loopS (ι := Nat × List Int × Option Nat × Nat) (fun q => [(0, .own q.2.2.1 q.2.1.length q.2.2.2), (17, .psl t.kids.length (encs trC t.kids)), (18, .int .i64 t.kids.length), (19, .int .i64 q.1)]) (fun q => ⟨q.2.2.1, q.2.2.2 * 1, ints q.2.1⟩ :: M) (fun q => t.kids.length - q.1) (fun q => q.1 ≤ t.kids.length ∧ q.2.1 ++ rulessT (t.kids.drop q.1) = l ++ t.rule :: rulessT t.kids) (0, l ++ [t.rule], ob1, cap1) ⟨Nat.zero_le _, by simp⟩ ⟨by rw [List.length_append]; rfl, rfl, rfl, rfl, trivial⟩ (by simp only [ints_app]; rfl) ?_
    rintro ⟨i, l', ob, cap⟩ ⟨hi, hgo⟩
    simp only at hi hgo ⊢
    repeat (first | refine aops_end ?_ | refine aops_p tok rfl rfl rfl rfl ?_ | refine acode_seq ?_ | refine acode_region ?_)
    refine acode_id rfl (fun e => ?_) (fun e => ?_)
    · have hil : i < t.kids.length := by omega
      obtain ⟨u, hu⟩ : ∃ u, t.kids[i]? = some u := ⟨t.kids[i], List.getElem?_eq_getElem hil⟩
      have hum := List.mem_of_getElem? hu
      have hus := trsSize_mem hum
      have hl' : l'.length ≤ l.length + 1 + (rulessT t.kids).length := by
        have := congrArg List.length hgo
        simp only [List.length_append, List.length_cons] at this
        omega
      have hyl := rulessT_len t.kids
      have hdr : trSize u + l'.length ≤ 1000000000 := by
        have h1 := congrArg List.length hgo
        rw [rules_step hu] at h1
        simp only [List.length_append, List.length_cons] at h1
        have h2 : l'.length ≤ l.length + 1 + trsSize (t.kids.take i) := by
          have hsplit : rulessT t.kids = rulessT (t.kids.take i) ++ rulessT (t.kids.drop i) := by
            have key : ∀ (x y : List Tr), rulessT (x ++ y) = rulessT x ++ rulessT y := by
              intro x y
              induction x with
              | nil => rfl
              | cons z x ihx => simp only [List.cons_append, rulessT, ihx, List.append_assoc]
            rw [← key, List.take_append_drop]
          have h3 := congrArg List.length hgo
          rw [hsplit] at h3
          simp only [List.length_append, List.length_cons] at h3
          have := rulessT_len (t.kids.take i)
          omega
        have h4 : trsSize (t.kids.take i) + trSize u ≤ trsSize t.kids := by
          have key : ∀ (x y : List Tr), trsSize (x ++ y) = trsSize x + trsSize y := by
            intro x y
            induction x with
            | nil => simp [trsSize]
            | cons z x ihx => simp only [List.cons_append, trsSize, ihx]; omega
          have := key (t.kids.take i) (t.kids.drop i)
          rw [List.take_append_drop, drop_at hu, trsSize] at this
          omega
        omega
      rw [rules_step hu, ← List.append_assoc] at hgo
      repeat (first | refine acode_seq ?_ | refine acode_region ?_ | refine acode_block ?_ | refine acode_skip ?_ | refine then_n ?_)
      refine aops_ix tok [.int .i64 u.rule, .int .i64 u.tok, .psl u.kids.length (encs trC u.kids)] rfl rfl rfl rfl (by omega) (by omega) (by simp) (by rw [← trC_eq]; exact tr_at hu) rfl rfl rfl ?_
      repeat (refine aops_p tok rfl rfl rfl rfl ?_)
      refine aops_alloc tok rfl rfl rfl rfl rfl rfl fun ba => ?_
      repeat (refine aops_stn tok rfl rfl rfl rfl rfl rfl rfl rfl rfl ?_)
      refine aops_pubref0 6 rfl ?_
      repeat (first | refine aops_end ?_ | refine aops_p tok rfl rfl rfl rfl ?_ | refine acode_region ?_)
      refine aops_call Try.func93 rfl rfl rfl rfl (ih u hum l' hdr ob cap M) rfl rfl ?_
      rintro x M' ⟨ob', cap', rfl, rfl⟩
      repeat (first | refine aops_put rfl ?_ | refine aops_end ?_ | refine aops_endb ?_ | refine aops_a tok rfl (by omega) (by omega) rfl rfl rfl ?_ | refine aops_p tok rfl rfl rfl rfl ?_ | refine acode_region ?_ | refine then_n ?_)
      exact ⟨(i + 1, l' ++ rulesT u, ob', cap'), ⟨by simp only; omega, hgo⟩, by simp only; omega, ⟨rfl, rfl, rfl, rfl, trivial⟩, rfl⟩
    · have hge : i = t.kids.length := by omega
      subst hge
      rw [List.drop_length, rulessT, List.append_nil] at hgo
      subst hgo
      refine acode_exit ?_
      repeat (first | refine exit_then ?_ | refine exit_here ?_ | refine then_n ?_)
      repeat (first | refine aops_end ?_ | refine aops_p tok rfl rfl rfl rfl ?_ | refine acode_seq ?_ | refine acode_region ?_)
      refine acode_ret ?_
      skip
      exact ⟨_, ⟨ob, cap, rfl, rfl⟩, resOf_tmp rfl⟩
theorem urules_calls {t : Tr} (hsz : trSize t ≤ 1000000000) (M : List Ob) : ACalls Try.prog 62 [trA t] M (fun r M' => r = .psl (rulesT t).length (ints (rulesT t)) ∧ M' = M) := by
  refine acalls_frozen (sz := 1) (by rw [ints_len, Nat.mul_one]) (by decide) ?_
  refine acalls_of_code 5 Try.func62 rfl rfl rfl ?_
  repeat (first | refine acode_seq ?_ | refine acode_region ?_)
  refine aops_boxf rfl rfl rfl rfl rfl rfl rfl ?_
  repeat (first | refine aops_end ?_ | refine aops_p tok rfl rfl rfl rfl ?_ | refine acode_seq ?_ | refine acode_region ?_)
  refine aops_call Try.func93 rfl rfl rfl rfl (acalls_nil0 (ys := [.own none 0 0, trA t]) (fun G vs h => ?_) (urules0_calls t [] (by simpa using hsz) none 0 M)) rfl rfl ?_
  · obtain ⟨v, vs', rfl, h1, h2⟩ := h
    exact ⟨v, vs', rfl, rep_nils_own G h1, h2⟩
  rintro x M' ⟨ob', cap', rfl, rfl⟩
  rw [List.nil_append]
  repeat (first | refine aops_put rfl ?_ | refine aops_end ?_ | refine aops_p tok rfl rfl rfl rfl ?_)
  refine acode_ret ?_
  skip
  exact ⟨_, ⟨ob', cap', rfl, rfl⟩, resOf_tmp rfl⟩
theorem sumD_bound {g : Gr} (hd : ∀ r, -1000000 ≤ dynF g r ∧ dynF g r ≤ 1000000) : ∀ l : List Int, -1000000 * (l.length : Int) ≤ sumD g l ∧ sumD g l ≤ 1000000 * (l.length : Int)
  | [] => by simp [sumD]
  | r :: l => by
    have := hd r
    have := sumD_bound hd l
    rw [sumD, List.length_cons]
    omega
theorem sumD_snoc (g : Gr) (l : List Int) (r : Int) : sumD g (l ++ [r]) = sumD g l + dynF g r := by rw [sumD_app]; simp [sumD]
set_option maxHeartbeats 2000000 in
theorem chweight_calls {g : Gr} {t : Tr} (hd : ∀ r, -1000000 ≤ dynF g r ∧ dynF g r ≤ 1000000) (hsz : trSize t ≤ 1000000) (M : List Ob) : ACalls Try.prog 25 [grA g, trA t] M (fun r M' => r = .int .i64 (wtT g t) ∧ M' = M) := by
  have hrl := rulesT_len t
  unfold wtT
  have huc := fun M => urules_calls (t := t) (by omega) M
  generalize rulesT t = l at *
  refine acalls_of_code 22 Try.func25 rfl rfl rfl ?_
  repeat (first | refine acode_seq ?_ | refine acode_region ?_)
  refine aops_boxf rfl rfl rfl rfl rfl rfl rfl ?_
  refine aops_boxf rfl rfl rfl rfl rfl rfl rfl ?_
  repeat (first | refine aops_end ?_ | refine aops_p tok rfl rfl rfl rfl ?_ | refine acode_seq ?_ | refine acode_region ?_)
  refine aops_callx Try.func62 rfl rfl rfl rfl (huc _) rfl rfl rfl ?_
  repeat (first | refine aops_end ?_ | refine aops_p tok rfl rfl rfl rfl ?_ | refine acode_block ?_)
  refine acode_loopS (ι := Nat) (fun i => [(2, .pp (grC g)), (5, .int .i64 (sumD g (l.take i))), (9, .psl l.length (ints l)), (10, .int .i64 l.length), (11, .int .i64 i)]) (fun _ => M) (fun i => l.length - i) (fun i => i ≤ l.length) 0 (Nat.zero_le _) ⟨rfl, rfl, rfl, rfl, rfl, trivial⟩ rfl ?_
  rintro i hi
  have hb := sumD_bound hd (l.take i)
  have htl : ((l.take i).length : Int) ≤ 1000000 := by rw [List.length_take]; omega
  repeat (first | refine aops_end ?_ | refine aops_p tok rfl rfl rfl rfl ?_ | refine acode_seq ?_ | refine acode_region ?_)
  refine acode_id rfl (fun e => ?_) (fun e => ?_)
  · have hil : i < l.length := by omega
    obtain ⟨r, hr⟩ : ∃ r, l[i]? = some r := ⟨l[i], List.getElem?_eq_getElem hil⟩
    have htk : l.take (i + 1) = l.take i ++ [r] := by rw [List.take_add_one, hr]; rfl
    have hdr := hd r
    have hdc := fun M => dyn_calls (g := g) (r := r) M
    have hs := sumD_snoc g (l.take i) r
    generalize dynF g r = d at *
    repeat (first | refine acode_seq ?_ | refine acode_region ?_ | refine acode_block ?_ | refine acode_skip ?_ | refine then_n ?_)
    refine aops_ix tok [A.int .i64 r] rfl rfl rfl rfl (by omega) (by omega) (by simp) (ints_at (j := i) (by simpa using hr)) rfl rfl rfl ?_
    repeat (first | refine aops_end ?_ | refine aops_p tok rfl rfl rfl rfl ?_ | refine acode_region ?_)
    refine aops_callx Try.func63 rfl rfl rfl rfl (hdc _) rfl rfl rfl ?_
    repeat (first | refine aops_end ?_ | refine aops_endb ?_ | refine aops_a tok rfl (by omega) (by omega) rfl rfl rfl ?_ | refine aops_p tok rfl rfl rfl rfl ?_ | refine acode_region ?_ | refine then_n ?_)
    exact ⟨i + 1, by omega, by omega, ⟨rfl, congrArg (A.int .i64) (by rw [htk, hs]), rfl, rfl, rfl, trivial⟩, rfl⟩
  · obtain rfl : i = l.length := by omega
    rw [List.take_length]
    refine acode_exit ?_
    repeat (first | refine exit_then ?_ | refine exit_here ?_ | refine then_n ?_)
    repeat (first | refine aops_end ?_ | refine aops_p tok rfl rfl rfl rfl ?_ | refine acode_seq ?_ | refine acode_region ?_)
    refine acode_ret ?_
    skip
    exact ⟨_, ⟨rfl, rfl⟩, resOf_tmp rfl⟩
set_option maxHeartbeats 4000000 in
theorem ryield_calls : ∀ (t : Tr), trSize t ≤ 1000000 → ∀ (M : List Ob), ACalls Try.prog 26 [trA t] M (fun r M' => r = .psl (yieldF t).length (ints (yieldF t)) ∧ M' = M) := by
  refine Tr.ind fun t ih hsz M => ?_
  have hyl := yieldF_len t
  rw [trSize_eq] at hsz
  have hkl := trsSize_len t.kids
  have hys := yieldsF_len t.kids
  rw [yieldF_eq]
  refine acalls_of_code 27 Try.func26 rfl rfl rfl ?_
  repeat (first | refine acode_seq ?_ | refine acode_region ?_)
  refine aops_boxf rfl rfl rfl rfl rfl rfl rfl ?_
  by_cases h1 : t.rule = -1
  · rw [if_pos h1]
    repeat' (first | refine aops_end ?_ | refine aops_pbt tok rfl (by first | omega | decide) rfl rfl rfl ?_ | refine aops_p tok rfl rfl rfl rfl ?_ | refine acode_it rfl ?_ | refine acode_seq ?_ | refine acode_region ?_)
    try any_goals (exfalso; omega)
    refine aops_litn tok rfl rfl rfl rfl rfl rfl rfl ?_
    repeat (first | refine aops_end ?_ | refine aops_p tok rfl rfl rfl rfl ?_)
    refine acode_ret ?_
    repeat (refine ret_then ?_)
    exact ⟨_, ⟨rfl, rfl⟩, resOf_tmp rfl⟩
  rw [if_neg h1]
  repeat' (first | refine aops_end ?_ | refine aops_pbf tok rfl (by first | omega | decide) rfl rfl rfl ?_ | refine aops_p tok rfl rfl rfl rfl ?_ | refine acode_if rfl ?_ | refine acode_seq ?_ | refine acode_region ?_ | refine acode_block ?_ | refine acode_skip ?_ | refine then_n ?_)
  try any_goals (exfalso; omega)
  refine acode_adopt 3 1 rfl ?_
  refine acode_loopS (ι := Nat × List Int × Option Nat × Nat) (fun q => [(1, .pp [.int .i64 t.rule, .int .i64 t.tok, .psl t.kids.length (encs trC t.kids)]), (3, .own q.2.2.1 q.2.1.length q.2.2.2), (4, .int .i64 q.1)]) (fun q => ⟨q.2.2.1, q.2.2.2 * 1, ints q.2.1⟩ :: M) (fun q => t.kids.length - q.1) (fun q => q.1 ≤ t.kids.length ∧ q.2.1 ++ yieldsF (t.kids.drop q.1) = yieldsF t.kids) (0, [], none, 0) ⟨Nat.zero_le _, rfl⟩ ⟨rfl, rfl, rfl, trivial⟩ rfl ?_
  rintro ⟨i, l', ob, cap⟩ ⟨hi, hgo⟩
  simp only at hi hgo ⊢
  have hl' := congrArg List.length hgo
  rw [List.length_append] at hl'
  repeat (first | refine aops_end ?_ | refine aops_p tok rfl rfl rfl rfl ?_ | refine acode_seq ?_ | refine acode_region ?_)
  refine acode_id rfl (fun e => ?_) (fun e => ?_)
  · have hil : i < t.kids.length := by omega
    obtain ⟨u, hu⟩ : ∃ u, t.kids[i]? = some u := ⟨t.kids[i], List.getElem?_eq_getElem hil⟩
    have hum := List.mem_of_getElem? hu
    have hus := trsSize_mem hum
    have hc := ih u hum (by omega)
    have hul := yieldF_len u
    rw [yields_step hu, ← List.append_assoc] at hgo
    generalize yieldF u = yu at *
    repeat (first | refine aops_p tok rfl rfl rfl rfl ?_ | refine acode_seq ?_ | refine acode_region ?_ | refine acode_block ?_ | refine acode_skip ?_ | refine then_n ?_)
    refine aops_ix tok [.int .i64 u.rule, .int .i64 u.tok, .psl u.kids.length (encs trC u.kids)] rfl rfl rfl rfl (by omega) (by omega) (by simp) (by rw [← trC_eq]; exact tr_at (by simpa using hu)) rfl rfl rfl ?_
    repeat (refine aops_p tok rfl rfl rfl rfl ?_)
    refine aops_callx Try.func26 rfl rfl rfl rfl (hc _) rfl rfl rfl ?_
    skip
    refine aops_append tok 0 (m := yu.length) (ds := ints yu) rfl rfl rfl (.inl rfl) rfl rfl (by rw [ints_len]; exact (Nat.mul_one _).symm) (by rw [ints_len]; exact (Nat.mul_one _).symm) (ints_cell yu) rfl (by show _ * 8 ≤ _; omega) (by omega) rfl rfl fun ob' cap' => ?_
    repeat (first | refine aops_put rfl ?_ | refine aops_end ?_ | refine aops_endb ?_ | refine aops_a tok rfl (by omega) (by omega) rfl rfl rfl ?_ | refine aops_p tok rfl rfl rfl rfl ?_ | refine acode_region ?_ | refine then_n ?_)
    exact ⟨(i + 1, l' ++ yu, ob', cap'), ⟨by simp only; omega, hgo⟩, by simp only; omega, ⟨rfl, by rw [List.length_append]; rfl, rfl, trivial⟩, by simp only [ints_app]; rfl⟩
  · obtain rfl : i = t.kids.length := by omega
    rw [List.drop_length, yieldsF, List.append_nil] at hgo
    subst hgo
    refine acode_exit ?_
    repeat (first | refine exit_then ?_ | refine exit_here ?_ | refine then_n ?_)
    refine acode_pub0 3 1 rfl rfl (by rw [ints_len, Nat.mul_one]) rfl ?_
    repeat (first | refine aops_end ?_ | refine aops_p tok rfl rfl rfl rfl ?_ | refine acode_seq ?_ | refine acode_region ?_)
    refine acode_ret ?_
    skip
    exact ⟨_, ⟨rfl, rfl⟩, resOf_tmp rfl⟩
end Go.Proofs.Ytbnhmioijeagiaa.Ab
/- Rows by a sign that may not stand on one of its sides: what Best makes of them. No condition. -/
set_option linter.unusedVariables false
set_option linter.unusedSimpArgs false
namespace Go.Proofs.Ytbnhmioijeagiaa.Ab

theorem blt_rule2 {g : Gr} {ks : List Int} {N : Nat} {F : List (List Bool)} {o : List Ky} {f : Fo} (B : Blt g ks N F o f) : ∀ i, ∀ a ∈ altsOf f i, a.rule ≠ -1 := by
  intro i a ha
  by_cases hi : i < o.length
  · obtain ⟨s, x, y, m, e, hn⟩ := B.node i _ (List.getElem?_eq_getElem hi)
    rw [hn.alts] at ha
    obtain ⟨w, hw, rfl⟩ := List.mem_map.1 (sortK_mem.1 ha)
    obtain ⟨j, h1, _⟩ := hn.mine.way w hw
    show w.1 ≠ -1
    omega
  · unfold altsOf at ha
    rw [List.getElem?_eq_none (by rw [B.len]; omega)] at ha
    cases ha
theorem gH_fit (fb : List F3) (d : Int) (f : Fo) (k s : Int) : fitB (gH fb d) f k s = fitB gS f k s := rfl
theorem gH_of (fb : List F3) (d : Int) (f : Fo) (s : Int) (a : Al) : ofB (gH fb d) f s a = ofB gS f s a := by
  unfold ofB
  rw [(gH_rule fb d a.rule).1, (gH_rule fb d a.rule).2]
  simp only [gH_fit]
  rfl
theorem gH_whole (fb : List F3) (d : Int) (f : Fo) : wholeB (gH fb d) f = wholeB gS f := by
  unfold wholeB
  simp only [gH_of]
theorem alt_one {P : Al → Pk} {Q : Al → Int} : ∀ (l : List Al), (∀ a ∈ l, ((P a).isTk = true ↔ Q a = 0)) → ((l.map Q).filter fun x => decide (x ≠ 0)).length ≤ 1 → DistW (l.map P)
  | [], _, _ => by simp [DistW]
  | a :: l, h, h1 => by
    have hl : ∀ b ∈ l, ((P b).isTk = true ↔ Q b = 0) := fun b hb => h b (by simp [hb])
    unfold DistW
    rw [List.map_cons, List.pairwise_cons]
    rw [List.map_cons, List.filter_cons] at h1
    by_cases ha : Q a = 0
    · rw [if_neg (by simp [ha])] at h1
      exact ⟨fun p _ => .inl ((h a (by simp)).2 ha), alt_one l hl h1⟩
    · rw [if_pos (by simp [ha]), List.length_cons] at h1
      have h2 : (l.map Q).filter (fun x => decide (x ≠ 0)) = [] := List.eq_nil_of_length_eq_zero (by omega)
      refine ⟨fun p hp => ?_, alt_one l hl (by omega)⟩
      obtain ⟨b, hb, rfl⟩ := List.mem_map.1 hp
      have := List.filter_eq_nil_iff.1 h2 (Q b) (List.mem_map.2 ⟨b, hb, rfl⟩)
      exact .inr (.inl ((hl b hb).2 (by simpa using this)))
theorem sumN_none : ∀ (l : List Int), (∀ x ∈ l, x = 0) → sumN l = 0 := by
  have key : ∀ (l : List Int), (∀ x ∈ l, x = 0) → l.foldl addN 0 = 0 := by
    intro l
    induction l with
    | nil => intro _; rfl
    | cons a l ih =>
      intro h
      rw [List.foldl_cons, h a (by simp)]
      exact ih fun x hx => h x (by simp [hx])
  exact key
/-- All that is told of such a row. -/
structure Sid (r : Bool) (d : Int) (m : Nat) (f : Fo) (t : Tr) : Prop where
  bld : (buildF (gH (fbS r) d) (ksS m) 5000).1 = some f
  ok : FoOk f
  form : FForm f
  whole : wholeB (gH (fbS r) d) f = true
  small : ∀ i, ∀ a ∈ altsOf f i, (a.kids.length ≤ 1000 ∧ ∀ k ∈ a.kids, rng k) ∧ -1000000 ≤ dynF (gH (fbS r) d) a.rule ∧ dynF (gH (fbS r) d) a.rule ≤ 1000000
  dist : ∀ i, i < f.nodes.length → DistB (pkT (gH (fbS r) d) f i) ∧ ∀ p ∈ pkT (gH (fbS r) d) f i, -1000000000000 ≤ p.wt ∧ p.wt ≤ 1000000000000
  best : bestR (gH (fbS r) d) f = .tup [trA t, .int .i64 0]
  comb : CombT r m t
  wt : wtT (gH (fbS r) d) t = d * m
  size : trSize t ≤ 34
  yield : yieldF t = span 0 (2 * m + 1)
theorem sid_is {m : Nat} (hm : m ≤ 8) {r : Bool} {d : Int} (h0 : -1000 ≤ d) (h1 : d ≤ 1000) : ∃ f t, Sid r d m f t := by
  obtain ⟨f, hb, hone, hok⟩ := one_all (m := m + 1) (by omega) (by omega) r
  obtain ⟨f', hb', hwh⟩ := wh_all (m := m + 1) (by omega) (by omega)
  rw [Nat.add_sub_cancel] at hb hb'
  rw [hb] at hb'
  obtain rfl := Option.some.inj hb'
  obtain ⟨tab, ht1, ht2⟩ := hone
  obtain ⟨tab2, hsm, ht3, hsum⟩ := hok
  have hbg : (buildF (gH (fbS r) d) (ksS m) 5000).1 = some f := by rw [gH_build]; exact hb
  obtain ⟨F, o, B⟩ := blt_of (N := 1) (gH_chk h0 h1) rfl hbg
  have hF := blt_form B
  have hw : ∀ i, i < f.nodes.length → WF f i := fun i hi => blt_all B hi
  have hr := blt_rule2 B
  have hkl := ksS_len m
  have hdyn : ∀ r', -1000 ≤ dynF (gH (fbS r) d) r' ∧ dynF (gH (fbS r) d) r' ≤ 1000 := fun r' => by rw [gH_dyn]; split <;> omega
  have htree : ∀ i, (hi : i < f.nodes.length) → ∀ x ∈ trL f i, Dv (gH (fbS r) d) (ksS m) 0 x ∧ trSize x ≤ 34 := fun i hi x hx => by
    obtain ⟨s, a, b, mm, e, hn⟩ := B.node i _ (List.getElem?_eq_getElem (by rw [← B.len]; exact hi))
    obtain ⟨y1, y2⟩ := tree_is B (hw i hi) s a b hn.key x hx
    have hs0 : s = 0 := by have := hn.sN; omega
    subst hs0
    have hp := dv_pos x y1
    rw [y2, span_len] at hp
    have := hn.bn
    exact ⟨y1, by omega⟩
  have hD : ∀ i, i < f.nodes.length → DistB (pkT (gH (fbS r) d) f i) ∧ ∀ p ∈ pkT (gH (fbS r) d) f i, -1000000000000 ≤ p.wt ∧ p.wt ≤ 1000000000000 := fun i hi => by
    refine ⟨?_, fun p hp => ?_⟩
    · refine DistW.toB ?_
      rw [pkT_eq (hw i hi)]
      refine alt_one (Q := fun a => altGo (fbS r) f (ftr (fbS r) f) a.rule 0 a.kids 1) _ (fun a ha => (pick_tk (g := gH (fbS r) d) (hw i hi) a ha).2.1) ?_
      have e : (altsOf f i).map (fun a => altGo (fbS r) f (ftr (fbS r) f) a.rule 0 a.kids 1) = ftr (fbS r) f i := (ftr_eq (hw i hi)).symm
      rw [e, ftr_tab ht1 (hw i hi)]
      unfold oneOk at ht2
      rw [List.all_eq_true] at ht2
      by_cases hl : i < tab.length
      · rw [List.getD_eq_getElem?_getD, List.getElem?_eq_getElem hl]
        simpa using ht2 _ (List.getElem_mem hl)
      · rw [List.getD_eq_getElem?_getD, List.getElem?_eq_none (by omega)]
        simp
    · cases hpt : p.isTk with
      | true =>
        cases p with
        | tk => simp [Pk.wt]
        | nd a w q => cases hpt
      | false =>
        have hi' := pick_is (g := gH (fbS r) d) hr (hw i hi) p hp hpt
        obtain ⟨_, y2⟩ := htree i hi _ hi'.mem
        have y3 := rulesT_len (treeP p)
        have y4 := sumD_bound (g := gH (fbS r) d) (fun x => by have := hdyn x; omega) (rulesT (treeP p))
        rw [hi'.wt]
        unfold wtT
        omega
  have hrl : f.root.toNat < f.nodes.length := by have := hF.1; omega
  obtain ⟨rt, hrt, hro⟩ := B.root
  have hrt' : f.root.toNat = rt := by omega
  have hbt : (bestF (fun _ => true) (pkT (gH (fbS r) d) f f.root.toNat)).isTk = false := by
    rw [Bool.eq_false_iff]
    intro hc
    have hall := best_tk.1 hc
    have hz : sumN (ftr (fbS r) f f.root.toNat) = 0 := by
      refine sumN_none _ fun x hx => ?_
      rw [ftr_eq (hw _ hrl)] at hx
      obtain ⟨a, ha, rfl⟩ := List.mem_map.1 hx
      refine (pick_tk (g := gH (fbS r) d) (hw _ hrl) a ha).2.1.1 ?_
      have := hall (altP (gH (fbS r) d) (pkT (gH (fbS r) d) f) a) (by rw [pkT_eq (hw _ hrl)]; exact List.mem_map.2 ⟨a, ha, rfl⟩)
      simpa using this
    rw [ftr_tab ht3 (hw _ hrl), hsum] at hz
    cases hz
  have hPI := pick_is (g := gH (fbS r) d) hr (hw _ hrl) _ (best_in hbt).1 hbt
  refine ⟨f, treeP (bestF (fun _ => true) (pkT (gH (fbS r) d) f f.root.toNat)), ?_⟩
  obtain ⟨y1, y2⟩ := tree_is B (hw _ hrl) 0 0 (ksS m).length (by rw [hrt']; exact hro) _ hPI.mem
  obtain ⟨_, y3⟩ := htree _ hrl _ hPI.mem
  rw [hkl] at y2
  obtain ⟨c1, c2⟩ := comb_is m _ y1 hPI.may (by rw [y2, span_len]; rfl)
  refine ⟨hbg, (sm_fo hsm).1, hF, by rw [gH_whole]; exact hwh, fun i a ha => ?_, hD, ?_, c1, c2, y3, y2⟩
  · have hi : i < f.nodes.length := by
      rcases Nat.lt_or_ge i f.nodes.length with h | h
      · exact h
      · unfold altsOf at ha
        rw [List.getElem?_eq_none h] at ha
        cases ha
    obtain ⟨nd, hnd, hndm, hal⟩ := nodes_at hi
    rw [hal] at ha
    have := ((smOk_is hsm).2 nd hndm).2 a ha
    refine ⟨⟨this.1, fun k hk => ?_⟩, by have := hdyn a.rule; omega⟩
    have := this.2 k hk
    unfold rng; omega
  · unfold bestR
    rw [hbt]
    rfl
end Go.Proofs.Ytbnhmioijeagiaa.Ab
/- Chapter 24's law of sides: the walk. No condition. -/
set_option linter.unusedVariables false
set_option linter.unusedSimpArgs false
namespace Go.Proofs.Ytbnhmioijeagiaa.Ab
attribute [local irreducible] thenA inBlockA ACode AOps put IntKind.wrap

theorem num24_calls {n : Int} (M : List Ob) : ACalls Try.prog 20 [.int .i64 n] M (fun r M' => r = .int .i64 n ∧ M' = M) := by
  refine acalls_of_code 4 Try.func20 rfl rfl rfl ?_
  repeat (first | refine aops_end ?_ | refine aops_p tok rfl rfl rfl rfl ?_ | refine acode_seq ?_ | refine acode_region ?_)
  refine acode_ret ?_
  skip
  exact ⟨_, ⟨rfl, rfl⟩, resOf_tmp rfl⟩
def gA2 : Gr := ⟨1, 0, 0, [⟨0, [], 1⟩, ⟨0, [], 5⟩], [], [], []⟩
def fA2 : Fo := ⟨[⟨0, 0, 0, [⟨0, []⟩, ⟨1, []⟩]⟩], 0⟩
theorem fA2_kid {i : Nat} {k : Int} : ¬ Kid fA2 i k := by
  rintro ⟨a, ha, hk⟩
  by_cases hi : i = 0
  · subst hi
    have ha : a ∈ [(⟨0, []⟩ : Al), ⟨1, []⟩] := ha
    simp only [List.mem_cons, List.not_mem_nil, or_false] at ha
    rcases ha with rfl | rfl <;> cases hk
  · unfold altsOf at ha
    rw [List.getElem?_eq_none (by show 1 ≤ i; omega)] at ha
    cases ha
theorem fA2_wf : WF fA2 0 := .mk (by decide) (fun k hk => absurd hk fA2_kid) (fun k hk => absurd hk fA2_kid)
theorem fA2_form : FForm fA2 := ⟨by decide, fun i hi => by
  have : i = 0 := by have : i < 1 := hi; omega
  subst this; exact fA2_wf⟩
theorem fA2_pk : pkT gA2 fA2 0 = [.nd ⟨0, []⟩ 1 [], .nd ⟨1, []⟩ 5 []] := by
  rw [pkT_eq fA2_wf]; rfl
theorem fA2_best : bestR gA2 fA2 = .tup [trA (.mk 1 0 []), .int .i64 0] := by
  unfold bestR
  rw [show fA2.root.toNat = 0 from rfl, fA2_pk]
  rfl
theorem gA2_ok : GrOk gA2 := by
  refine ⟨by decide, by decide, by decide, by decide, ?_⟩
  show ∀ r ∈ gA2.rules, r.right.length ≤ 9223372036854775807 ∧ ∀ s ∈ r.right, -9223372036854775808 ≤ s ∧ s ≤ 9223372036854775807
  decide
theorem a2_calls (M : List Ob) : ACalls Try.prog 18 [grA gA2, foA fA2] M (fun x M' => x = .tup [trA (.mk 1 0 []), .int .i64 0] ∧ M' = M) := by
  have hfo : FoOk fA2 := by
    refine ⟨by decide, ?_⟩
    decide
  have h := chbest_calls (g := gA2) (f := fA2) gA2_ok (by decide +kernel) hfo fA2_form (by decide +kernel) (fun i a ha => ?_) (fun i hi => ?_) M
  · rw [fA2_best] at h; exact h
  · by_cases hi : i = 0
    · subst hi
      have ha : a ∈ [(⟨0, []⟩ : Al), ⟨1, []⟩] := ha
      simp only [List.mem_cons, List.not_mem_nil, or_false] at ha
      rcases ha with rfl | rfl <;> exact ⟨⟨by decide, fun k hk => by cases hk⟩, by decide, by decide⟩
    · unfold altsOf at ha
      rw [List.getElem?_eq_none (by show 1 ≤ i; omega)] at ha
      cases ha
  · have : i = 0 := by have : i < 1 := hi; omega
    subst this
    rw [fA2_pk]
    refine ⟨by simp [DistB, Pk.wt], fun p hp => ?_⟩
    simp only [List.mem_cons, List.not_mem_nil, or_false] at hp
    rcases hp with rfl | rfl <;> simp [Pk.wt]
theorem vwA2 (M : List Ob) : Vw M (.agg [.int .i64 1, .int .i64 0, .int .i64 0, .psl 2 [.int .i64 0, .nils, .int .i64 1, .int .i64 0, .nils, .int .i64 5], .nils, .nils, .nils]) (grA gA2) :=
  .agg (.cons (.refl _) (.cons (.refl _) (.cons (.refl _) (.cons (.psl (.cons (.refl _) (.cons .nils (.cons (.refl _) (.cons (.refl _) (.cons .nils (.cons (.refl _) .nil))))))) (.cons .nils (.cons .nils (.cons .nils .nil)))))))
theorem vwF2 (M : List Ob) : Vw M (.agg [.psl 1 [.int .i64 0, .int .i64 0, .int .i64 0, .psl 2 [.int .i64 0, .nils, .int .i64 1, .nils]], .int .i64 0]) (foA fA2) :=
  .agg (.cons (.psl (.cons (.refl _) (.cons (.refl _) (.cons (.refl _) (.cons (.psl (.cons (.refl _) (.cons .nils (.cons (.refl _) (.cons .nils .nil))))) .nil))))) (.cons (.refl _) .nil))
theorem n2_calls (M : List Ob) : ACalls Try.prog 18 [.agg [.int .i64 0, .int .i64 0, .int .i64 0, .nils, .nils, .nils, .nils], .agg [.nils, .int .i64 0]] M (fun x M' => x = .tup [noP, .int .i64 1] ∧ M' = M) := by
  have h := chbest_none (g := ⟨0, 0, 0, [], [], [], []⟩) (f := ⟨[], 0⟩) ⟨by decide, fun n hn => by cases hn⟩ (fun h => by have := h.1.2; simp at this) M
  exact acalls_arg (.cons (.agg (.cons (.refl _) (.cons (.refl _) (.cons (.refl _) (.cons .nils (.cons .nils (.cons .nils (.cons .nils .nil)))))))) (.cons (.agg (.cons .nils (.cons (.refl _) .nil))) .nil)) h
set_option maxHeartbeats 8000000 in
theorem alive24_calls (M : List Ob) : ACalls Try.prog 17 [] M (fun r M' => r = .bool true ∧ M' = M) := by
  have hdy : ∀ r, -1000000 ≤ dynF gA2 r ∧ dynF gA2 r ≤ 1000000 := fun r => by
    unfold dynF
    split
    · rename_i h
      obtain ⟨h1, h2⟩ := h
      have h2 : r < 2 := h2
      have : r = 0 ∨ r = 1 := by omega
      rcases this with rfl | rfl <;> decide
    · decide
  have hwt := chweight_calls (g := gA2) (t := .mk 1 0 []) hdy (by decide)
  rw [show wtT gA2 (.mk 1 0 []) = 5 from rfl] at hwt
  refine acalls_of_code 46 Try.func17 rfl rfl rfl ?_
  repeat (first | refine aops_end ?_ | refine aops_p tok rfl rfl rfl rfl ?_ | refine acode_seq ?_ | refine acode_region ?_)
  refine aops_callx Try.func18 rfl rfl rfl rfl (n2_calls _) rfl rfl rfl ?_
  repeat (refine aops_p tok rfl rfl rfl rfl ?_)
  refine aops_alloc tok rfl rfl rfl rfl rfl rfl fun b1 => ?_
  repeat (first | refine aops_p tok rfl rfl rfl rfl ?_ | refine aops_stn tok rfl rfl rfl rfl rfl rfl rfl rfl rfl ?_)
  refine aops_pubref0 1 rfl ?_
  repeat (first | refine aops_end ?_ | refine aops_p tok rfl rfl rfl rfl ?_ | refine acode_seq ?_ | refine acode_region ?_)
  refine aops_litn tok rfl rfl rfl rfl rfl rfl rfl ?_
  repeat (refine aops_p tok rfl rfl rfl rfl ?_)
  refine aops_alloc tok rfl rfl rfl rfl rfl rfl fun bg => ?_
  repeat (refine aops_stn tok rfl rfl rfl rfl rfl rfl rfl rfl rfl ?_)
  refine aops_pubref0 3 rfl ?_
  repeat (first | refine aops_end ?_ | refine aops_p tok rfl rfl rfl rfl ?_ | refine acode_seq ?_ | refine acode_region ?_)
  refine aops_litn tok rfl rfl rfl rfl rfl rfl rfl ?_
  repeat (refine aops_p tok rfl rfl rfl rfl ?_)
  refine aops_litn tok rfl rfl rfl rfl rfl rfl rfl ?_
  repeat (refine aops_p tok rfl rfl rfl rfl ?_)
  refine aops_callx Try.func18 rfl rfl rfl rfl (acalls_arg (.cons (vwA2 _) (.cons (vwF2 _) .nil)) (a2_calls _)) rfl rfl rfl ?_
  repeat (refine aops_p tok rfl rfl rfl rfl ?_)
  refine aops_alloc tok rfl rfl rfl rfl rfl rfl fun b2 => ?_
  repeat (first | refine aops_p tok rfl rfl rfl rfl ?_ | refine aops_stn tok rfl rfl rfl rfl rfl rfl rfl rfl rfl ?_)
  refine aops_pubref0 4 rfl ?_
  repeat (first | refine aops_end ?_ | refine aops_p tok rfl rfl rfl rfl ?_ | refine acode_seq ?_ | refine acode_region ?_)
  refine aops_callx Try.func20 rfl rfl rfl rfl (num24_calls _) rfl rfl rfl ?_
  repeat' (first | refine aops_pbt tok rfl (by first | omega | decide) rfl rfl rfl ?_ | refine aops_p tok rfl rfl rfl rfl ?_)
  try any_goals (exfalso; omega)
  refine aops_callx Try.func20 rfl rfl rfl rfl (num24_calls _) rfl rfl rfl ?_
  repeat' (first | refine aops_pbt tok rfl (by first | omega | decide) rfl rfl rfl ?_ | refine aops_p tok rfl rfl rfl rfl ?_)
  try any_goals (exfalso; omega)
  refine aops_callx Try.func25 rfl rfl rfl rfl (acalls_arg (.cons (vwA2 _) (.cons (.refl _) .nil)) (hwt _)) rfl rfl rfl ?_
  repeat' (first | refine aops_end ?_ | refine aops_pbt tok rfl (by first | omega | decide) rfl rfl rfl ?_ | refine aops_p tok rfl rfl rfl rfl ?_)
  try any_goals (exfalso; omega)
  refine acode_ret ?_
  skip
  exact ⟨_, ⟨rfl, rfl⟩, resOf_tmp rfl⟩
theorem vw_gH (fb : List F3) (d : Int) (M : List Ob) : Vw M (.agg [.int .i64 1, .int .i64 2, .int .i64 0, .psl 2 (encs ruC [⟨0, [-1], 0⟩, ⟨0, [0, -2, 0], d⟩]), .psl fb.length (encs f3C fb), .nils, .nils]) (grA (gH fb d)) :=
  .agg (.cons (.refl _) (.cons (.refl _) (.cons (.refl _) (.cons (.refl _) (.cons (.refl _) (.cons .nils (.cons .nils .nil)))))))
abbrev gHx (r : Bool) (d : Int) : List A := [.int .i64 1, .int .i64 2, .int .i64 0, .psl 2 (encs ruC [⟨0, [-1], 0⟩, ⟨0, [0, -2, 0], d⟩]), .psl 1 (encs f3C (fbS r)), .nils, .nils]
theorem vw_gHx (r : Bool) (d : Int) (M : List Ob) : Vw M (.agg (gHx r d)) (grA (gH (fbS r) d)) := by
  have : (fbS r).length = 1 := by cases r <;> rfl
  have h := vw_gH (fbS r) d M
  rw [this] at h; exact h
theorem comb_next {r : Bool} {j : Nat} {u : Tr} (h : CombT r (j + 1) u) : ∃ tk x y z, u = .mk 1 tk [x, y, z] ∧ CombT r j (if r then z else x) := by
  obtain ⟨a, b, c⟩ := u
  obtain ⟨h1, x, y, z, h2, h3⟩ := h
  have h1 : a = 1 := h1
  have h2 : c = [x, y, z] := h2
  subst h1; subst h2
  exact ⟨b, x, y, z, rfl, h3⟩
theorem comb_end {r : Bool} {u : Tr} (h : CombT r 0 u) : u.rule = 0 := h
set_option maxHeartbeats 32000000 in
theorem chS_main {n d : Int} {r : Bool} : ACalls Try.prog 7 [.int .i64 n, .bool r, .int .i64 d] [] (fun x _ => x = .bool true) := by
  refine acalls_of_code 132 Try.func7 rfl rfl rfl ?_
  repeat (first | refine aops_end ?_ | refine aops_p tok rfl rfl rfl rfl ?_ | refine acode_seq ?_ | refine acode_region ?_)
  refine aops_callx Try.func17 rfl rfl rfl rfl (alive24_calls _) rfl rfl rfl ?_
  by_cases h1 : 1 ≤ n
  rotate_left
  · repeat' (first | refine aops_end ?_ | refine aops_o rfl rfl rfl ?_ | refine aops_pbt tok rfl (by first | omega | decide) rfl rfl rfl ?_ | refine aops_p tok rfl rfl rfl rfl ?_ | refine acode_it rfl ?_ | refine acode_seq ?_ | refine acode_region ?_)
    try any_goals (exfalso; omega)
    refine acode_ret ?_
    repeat (refine ret_then ?_)
    exact ⟨_, rfl, resOf_tmp rfl⟩
  by_cases h9 : n ≤ 9
  rotate_left
  · repeat' (first | refine aops_end ?_ | refine aops_o rfl rfl rfl ?_ | refine aops_pbt tok rfl (by first | omega | decide) rfl rfl rfl ?_ | refine aops_pbf tok rfl (by first | omega | decide) rfl rfl rfl ?_ | refine aops_p tok rfl rfl rfl rfl ?_ | refine acode_it rfl ?_ | refine acode_seq ?_ | refine acode_region ?_)
    try any_goals (exfalso; omega)
    refine acode_ret ?_
    repeat (refine ret_then ?_)
    exact ⟨_, rfl, resOf_tmp rfl⟩
  by_cases hd0 : -1000 ≤ d
  rotate_left
  · repeat' (first | refine aops_end ?_ | refine aops_o rfl rfl rfl ?_ | refine aops_pbt tok rfl (by first | omega | decide) rfl rfl rfl ?_ | refine aops_pbf tok rfl (by first | omega | decide) rfl rfl rfl ?_ | refine aops_p tok rfl rfl rfl rfl ?_ | refine acode_it rfl ?_ | refine acode_seq ?_ | refine acode_region ?_)
    try any_goals (exfalso; omega)
    refine acode_ret ?_
    repeat (refine ret_then ?_)
    exact ⟨_, rfl, resOf_tmp rfl⟩
  by_cases hd1 : d ≤ 1000
  rotate_left
  · repeat' (first | refine aops_end ?_ | refine aops_pbt tok rfl (by first | omega | decide) rfl rfl rfl ?_ | refine aops_pbf tok rfl (by first | omega | decide) rfl rfl rfl ?_ | refine aops_p tok rfl rfl rfl rfl ?_ | refine acode_it rfl ?_ | refine acode_seq ?_ | refine acode_region ?_)
    try any_goals (exfalso; omega)
    refine acode_ret ?_
    repeat (refine ret_then ?_)
    exact ⟨_, rfl, resOf_tmp rfl⟩
  obtain ⟨m, rfl⟩ : ∃ m : Nat, n = (m : Int) + 1 := ⟨(n - 1).toNat, by omega⟩
  obtain ⟨f, t, S⟩ := sid_is (m := m) (by omega) (r := r) hd0 hd1
  have hkl := ksS_len m
  have hfl : (fbS r).length = 1 := by cases r <;> rfl
  have hgo := gH_ok (fb := fbS r) (d := d) (by omega)
  have hB : ∀ M, ACalls Try.prog 12 [.agg (gHx r d), .psl (ksS m).length (ints (ksS m)), .int .i64 5000] M (fun x M' => x = .tup [foA f, .int .i64 (ksS m).length, .int .i64 0] ∧ M' = M) := fun M => by
    have hbc := build_calls (g := gH (fbS r) d) (ks := ksS m) (N := 1) (n := (ksS m).length) (lim := 5000) hgo (gH_chk hd0 hd1) rfl rfl (by omega) (by omega) M
    refine (acalls_arg (.cons (vw_gHx r d _) (.cons (.refl _) (.cons (.refl _) .nil))) hbc).mono ?_
    rintro x M' ⟨⟨a, e, _, h1, rfl⟩ | ⟨f', h1, _, _, rfl⟩, rfl⟩
    · rw [S.bld] at h1; cases h1
    · rw [S.bld] at h1; cases h1
      exact ⟨rfl, rfl⟩
  have hC : ∀ M, ACalls Try.prog 18 [.agg (gHx r d), foA f] M (fun x M' => x = .tup [trA t, .int .i64 0] ∧ M' = M) := fun M => by
    have h := chbest_calls (g := gH (fbS r) d) (f := f) hgo (by rw [gH_form hd0 hd1]) S.ok S.form S.whole S.small S.dist M
    rw [S.best] at h
    exact acalls_arg (.cons (vw_gHx r d _) (.cons (.refl _) .nil)) h
  have hdy : ∀ x, -1000000 ≤ dynF (gH (fbS r) d) x ∧ dynF (gH (fbS r) d) x ≤ 1000000 := fun x => by rw [gH_dyn]; split <;> omega
  have hW : ∀ M, ACalls Try.prog 25 [.agg (gHx r d), trA t] M (fun x M' => x = .int .i64 (d * m) ∧ M' = M) := fun M => by
    have h := chweight_calls (g := gH (fbS r) d) (t := t) hdy (by have := S.size; omega) M
    rw [S.wt] at h
    exact acalls_arg (.cons (vw_gHx r d _) (.cons (.refl _) .nil)) h
  have hY := ryield_calls t (by have := S.size; omega)
  rw [S.yield, span_len] at hY
  have hE : d * ((m : Int) + 1 - 1) = d * m := by rw [Int.add_sub_cancel]
  have hM : -9000 ≤ d * (m : Int) ∧ d * (m : Int) ≤ 9000 := by
    have hm : m ≤ 8 := by omega
    have : m = 0 ∨ m = 1 ∨ m = 2 ∨ m = 3 ∨ m = 4 ∨ m = 5 ∨ m = 6 ∨ m = 7 ∨ m = 8 := by omega
    rcases this with rfl | rfl | rfl | rfl | rfl | rfl | rfl | rfl | rfl <;> omega
  have hcomb := S.comb
  clear S
  repeat' (first | refine aops_end ?_ | refine aops_pbf tok rfl (by first | omega | decide) rfl rfl rfl ?_ | refine aops_p tok rfl rfl rfl rfl ?_ | refine acode_if rfl ?_ | refine acode_seq ?_ | refine acode_region ?_ | refine acode_skip ?_ | refine then_n ?_)
  try any_goals (exfalso; omega)
  refine aops_litn tok rfl rfl rfl rfl rfl rfl rfl ?_
  repeat (refine aops_p tok rfl rfl rfl rfl ?_)
  refine aops_litn tok rfl rfl rfl rfl rfl rfl rfl ?_
  repeat (refine aops_p tok rfl rfl rfl rfl ?_)
  refine aops_litn tok rfl rfl rfl rfl rfl rfl rfl ?_
  repeat (refine aops_p tok rfl rfl rfl rfl ?_)
  refine aops_litn tok rfl rfl rfl rfl rfl rfl rfl ?_
  repeat (refine aops_p tok rfl rfl rfl rfl ?_)
  refine aops_alloc tok rfl rfl rfl rfl rfl rfl fun gb => ?_
  repeat (refine aops_stn tok rfl rfl rfl rfl rfl rfl rfl rfl rfl ?_)
  refine aops_end ?_
  repeat (first | refine acode_seq ?_ | refine acode_region ?_)
  repeat (refine aops_p tok rfl rfl rfl rfl ?_)
  refine aops_end ?_
  refine acode_joinI (ι := Unit) (fun p => [(0, .int .i64 ((m : Int) + 1)), (1, .bool r), (2, .int .i64 d), (8, .ref gb 0)]) (fun p => ⟨some gb, 7, gHx r d⟩ :: []) (fun _ => True) ?_ ?_
  · cases r with
    | false =>
      repeat' (first | refine acode_if rfl ?_ | refine acode_skip ?_ | refine then_n ?_)
      exact ⟨(), trivial, ⟨rfl, rfl, rfl, rfl, trivial⟩, rfl⟩
    | true =>
      repeat' (first | refine aops_p tok rfl rfl rfl rfl ?_ | refine acode_it rfl ?_ | refine acode_region ?_)
      refine aops_litn tok rfl rfl rfl rfl rfl rfl rfl ?_
      repeat (first | refine aops_end ?_ | refine aops_p tok rfl rfl rfl rfl ?_ | refine aops_stn tok rfl rfl rfl rfl rfl rfl rfl rfl rfl ?_)
      exact ⟨(), trivial, ⟨rfl, rfl, rfl, rfl, trivial⟩, rfl⟩
  rintro - -
  refine acode_pubref0 8 rfl ?_
  repeat (first | refine acode_seq ?_ | refine acode_region ?_)
  refine aops_lito tok rfl rfl rfl rfl rfl rfl rfl fun kb => ?_
  repeat (first | refine aops_end ?_ | refine aops_p tok rfl rfl rfl rfl ?_ | refine acode_seq ?_ | refine acode_region ?_ | refine acode_block ?_)
  refine acode_loopS (ι := Nat × Option Nat × Nat) (fun p => [(0, .int .i64 ((m : Int) + 1)), (1, .bool r), (2, .int .i64 d), (8, .pp (gHx r d)), (9, .own p.2.1 (ksS p.1).length p.2.2), (10, .int .i64 ((p.1 : Int) + 1))]) (fun p => ⟨p.2.1, p.2.2 * 1, ints (ksS p.1)⟩ :: []) (fun p => m - p.1) (fun p => p.1 ≤ m) (0, some kb, 1) (Nat.zero_le _) ⟨rfl, rfl, rfl, rfl, rfl, rfl, trivial⟩ rfl ?_
  rintro ⟨j, ob, cap⟩ hj
  simp only at hj ⊢
  have hjl := ksS_len j
  repeat (first | refine aops_end ?_ | refine aops_p tok rfl rfl rfl rfl ?_ | refine acode_seq ?_ | refine acode_region ?_)
  refine acode_id rfl (fun e => ?_) (fun e => ?_)
  · repeat (first | refine aops_p tok rfl rfl rfl rfl ?_ | refine acode_seq ?_ | refine acode_region ?_ | refine acode_block ?_ | refine acode_skip ?_ | refine then_n ?_)
    refine aops_litn tok rfl rfl rfl rfl rfl rfl rfl ?_
    refine aops_append tok 0 (m := 2) (ds := ints [1, 0]) rfl rfl rfl (.inl rfl) rfl rfl (by rw [ints_len]; exact (Nat.mul_one _).symm) rfl rfl rfl (by show _ * 8 ≤ _; omega) (by omega) rfl rfl fun ob' cap' => ?_
    repeat (first | refine aops_put rfl ?_ | refine aops_end ?_ | refine aops_endb ?_ | refine aops_a tok rfl (by omega) (by omega) rfl rfl rfl ?_ | refine aops_p tok rfl rfl rfl rfl ?_ | refine acode_region ?_ | refine then_n ?_)
    refine ⟨(j + 1, ob', cap'), by simp only; omega, by simp only; omega, ⟨rfl, rfl, rfl, rfl, by rw [ksS, List.length_append]; rfl, congrArg (A.int .i64) (by omega), trivial⟩, ?_⟩
    simp only [ksS, ints_app]
    rfl
  obtain rfl : j = m := by omega
  refine acode_exit ?_
  repeat (first | refine exit_then ?_ | refine exit_here ?_ | refine then_n ?_)
  refine acode_pub0 9 1 rfl rfl (by rw [ints_len, Nat.mul_one]) rfl ?_
  repeat (first | refine aops_p tok rfl rfl rfl rfl ?_ | refine acode_seq ?_ | refine acode_region ?_)
  refine aops_callx Try.func12 rfl rfl rfl rfl (hB _) rfl rfl rfl ?_
  repeat (refine aops_p tok rfl rfl rfl rfl ?_)
  refine aops_alloc tok rfl rfl rfl rfl rfl rfl fun xb => ?_
  repeat (first | refine aops_p tok rfl rfl rfl rfl ?_ | refine aops_stn tok rfl rfl rfl rfl rfl rfl rfl rfl rfl ?_)
  refine aops_pubref0 11 rfl ?_
  repeat (first | refine aops_end ?_ | refine aops_p tok rfl rfl rfl rfl ?_ | refine acode_seq ?_ | refine acode_region ?_)
  refine aops_callx Try.func18 rfl rfl rfl rfl (hC _) rfl rfl rfl ?_
  repeat (refine aops_p tok rfl rfl rfl rfl ?_)
  refine aops_alloc tok rfl rfl rfl rfl rfl rfl fun tb => ?_
  repeat' (first | refine aops_end ?_ | refine aops_pbf tok rfl (by first | omega | decide) rfl rfl rfl ?_ | (refine aops_pn tok rfl rfl rfl rfl ?_ ?_ <;> intro e_) | refine aops_p tok rfl rfl rfl rfl ?_ | refine aops_stn tok rfl rfl rfl rfl rfl rfl rfl rfl rfl ?_ | refine acode_seq ?_ | refine acode_region ?_)
  try any_goals (exfalso; omega)
  refine aops_callx Try.func20 rfl rfl rfl rfl (num24_calls _) rfl rfl rfl ?_
  repeat' (first | refine aops_end ?_ | refine aops_o rfl rfl rfl ?_ | refine aops_pbt tok rfl (by first | omega | decide) rfl rfl rfl ?_ | refine aops_pbf tok rfl (by first | omega | decide) rfl rfl rfl ?_ | (refine aops_pn tok rfl rfl rfl rfl ?_ ?_ <;> intro e_) | refine aops_p tok rfl rfl rfl rfl ?_ | refine acode_if rfl ?_ | refine aops_ld tok 0 rfl rfl rfl rfl rfl rfl rfl rfl ?_ | refine acode_seq ?_ | refine acode_region ?_ | refine acode_skip ?_ | refine then_n ?_)
  try any_goals (exfalso; omega)
  refine aops_callx Try.func25 rfl rfl rfl rfl (hW _) rfl rfl rfl ?_
  repeat' (first | refine aops_end ?_ | refine aops_a tok rfl (by omega) (by omega) rfl rfl rfl ?_ | refine aops_pet tok rfl (by omega) rfl rfl rfl ?_ | (refine aops_pn tok rfl rfl rfl rfl ?_ ?_ <;> intro e_) | refine aops_p tok rfl rfl rfl rfl ?_ | refine acode_it rfl ?_ | refine acode_if rfl ?_ | refine aops_ld tok 0 rfl rfl rfl rfl rfl rfl rfl rfl ?_ | refine acode_seq ?_ | refine acode_region ?_ | refine acode_skip ?_ | refine then_n ?_)
  try any_goals (exfalso; omega)
  refine aops_callx Try.func26 rfl rfl rfl rfl (hY _) rfl rfl rfl ?_
  repeat (first | refine aops_end ?_ | refine aops_p tok rfl rfl rfl rfl ?_ | refine acode_seq ?_ | refine acode_region ?_ | refine acode_block ?_)
  refine acode_loopS (ι := Nat × Tr) (fun p => [(0, .int .i64 ((j : Int) + 1)), (1, .bool r), (14, .ref tb 0), (16, .psl (2 * j + 1 - 0) (ints (span 0 (2 * j + 1)))), (17, .int .i64 ((p.1 : Int) + 1))]) (fun p => ⟨some tb, 3, [.int .i64 p.2.rule, .int .i64 p.2.tok, .psl p.2.kids.length (encs trC p.2.kids)]⟩ :: []) (fun p => p.1) (fun p => p.1 ≤ j ∧ CombT r p.1 p.2) (j, t) ⟨Nat.le_refl _, hcomb⟩ ⟨rfl, rfl, rfl, rfl, rfl, trivial⟩ rfl ?_
  rintro ⟨k, u⟩ ⟨hk, hu⟩
  simp only at hk hu ⊢
  repeat (first | refine aops_end ?_ | refine aops_p tok rfl rfl rfl rfl ?_ | refine acode_seq ?_ | refine acode_region ?_)
  refine acode_id rfl (fun e2 => ?_) (fun e2 => ?_)
  · obtain ⟨k, rfl⟩ : ∃ q, k = q + 1 := ⟨k - 1, by omega⟩
    obtain ⟨tk, x, y, z, rfl, hn⟩ := comb_next hu
    simp only [Tr.rule, Tr.tok, Tr.kids]
    have hl3 : ([x, y, z] : List Tr).length = 3 := rfl
    rw [hl3]
    cases r with
    | true =>
      replace hn : CombT true k z := hn
      repeat' (first | refine aops_end ?_ | refine aops_pbt tok rfl (by first | omega | decide) rfl rfl rfl ?_ | refine aops_pbf tok rfl (by first | omega | decide) rfl rfl rfl ?_ | (refine aops_pn tok rfl rfl rfl rfl ?_ ?_ <;> intro e_) | refine aops_p tok rfl rfl rfl rfl ?_ | refine acode_it rfl ?_ | refine acode_if rfl ?_ | refine aops_ld tok 0 rfl rfl rfl rfl rfl rfl rfl rfl ?_ | refine acode_seq ?_ | refine acode_region ?_ | refine acode_block ?_ | refine acode_skip ?_ | refine then_n ?_)
      try any_goals (exfalso; omega)
      refine aops_ix tok (trC z) rfl rfl rfl rfl (by decide) (by decide) (by simp [trC_eq]) (encs_at (e := trC) (s := 3) trC_len (l := [x, y, z]) (i := 2) rfl) rfl rfl rfl ?_
      rw [trC_eq z]
      repeat (first | refine aops_end ?_ | refine aops_endb ?_ | refine aops_a tok rfl (by omega) (by omega) rfl rfl rfl ?_ | refine aops_p tok rfl rfl rfl rfl ?_ | refine aops_stn tok rfl rfl rfl rfl rfl rfl rfl rfl rfl ?_ | refine acode_region ?_ | refine then_n ?_)
      exact ⟨(k, z), ⟨by simp only; omega, hn⟩, by simp only; omega, ⟨rfl, rfl, rfl, rfl, congrArg (A.int .i64) (by omega), trivial⟩, rfl⟩
    | false =>
      replace hn : CombT false k x := hn
      repeat' (first | refine aops_end ?_ | refine aops_pbt tok rfl (by first | omega | decide) rfl rfl rfl ?_ | refine aops_pbf tok rfl (by first | omega | decide) rfl rfl rfl ?_ | (refine aops_pn tok rfl rfl rfl rfl ?_ ?_ <;> intro e_) | refine aops_p tok rfl rfl rfl rfl ?_ | refine acode_it rfl ?_ | refine acode_if rfl ?_ | refine aops_ld tok 0 rfl rfl rfl rfl rfl rfl rfl rfl ?_ | refine acode_seq ?_ | refine acode_region ?_ | refine acode_block ?_ | refine acode_skip ?_ | refine then_n ?_)
      try any_goals (exfalso; omega)
      refine aops_ix tok (trC x) rfl rfl rfl rfl (by decide) (by decide) (by simp [trC_eq]) (encs_at (e := trC) (s := 3) trC_len (l := [x, y, z]) (i := 0) rfl) rfl rfl rfl ?_
      rw [trC_eq x]
      repeat (first | refine aops_end ?_ | refine aops_endb ?_ | refine aops_a tok rfl (by omega) (by omega) rfl rfl rfl ?_ | refine aops_p tok rfl rfl rfl rfl ?_ | refine aops_stn tok rfl rfl rfl rfl rfl rfl rfl rfl rfl ?_ | refine acode_region ?_ | refine then_n ?_)
      exact ⟨(k, x), ⟨by simp only; omega, hn⟩, by simp only; omega, ⟨rfl, rfl, rfl, rfl, congrArg (A.int .i64) (by omega), trivial⟩, rfl⟩
  obtain rfl : k = 0 := by omega
  have hu0 := comb_end hu
  obtain ⟨ur, ut, uk⟩ := u
  have hu0 : ur = 0 := hu0
  subst hu0
  simp only [Tr.rule, Tr.tok, Tr.kids]
  refine acode_exit ?_
  repeat (first | refine exit_then ?_ | refine exit_here ?_ | refine then_n ?_)
  repeat' (first | refine aops_a tok rfl (by omega) (by omega) rfl rfl rfl ?_ | refine aops_pbt tok rfl (by first | omega | decide) rfl rfl rfl ?_ | refine aops_p tok rfl rfl rfl rfl ?_ | refine aops_ld tok 0 rfl rfl rfl rfl rfl rfl rfl rfl ?_ | refine acode_seq ?_ | refine acode_region ?_)
  try any_goals (exfalso; omega)
  refine aops_slc tok 1 (ints [0]) rfl rfl rfl rfl rfl (by decide) (by decide) (by omega) rfl (by rw [ints_len, span_len, Nat.mul_one]) (by rw [span]; rfl) rfl rfl rfl ?_
  skip
  refine aops_litn tok rfl rfl rfl rfl rfl rfl rfl ?_
  refine aops_callx Try.func27 rfl rfl rfl rfl (sameInts_calls (a := [0]) (b := [0]) (by decide) (by decide) _) rfl rfl rfl ?_
  repeat' (first | refine aops_end ?_ | refine aops_pbt tok rfl (by first | omega | decide) rfl rfl rfl ?_)
  refine acode_ret ?_
  skip
  exact ⟨_, rfl, resOf_tmp rfl⟩
theorem chooseSides_calls (zs : List A) (h : GoodL T [3, 4, 3] zs) : ACalls Try.prog 7 zs [] (fun r _ => r = .bool true) := by
  obtain ⟨_, _, rfl, ⟨f1, g1⟩, _, _, rfl, ⟨f2, g2⟩, _, _, rfl, ⟨f3, g3⟩, rfl⟩ := h
  obtain ⟨n, rfl, _⟩ := good_int (k := .i64) rfl g1
  obtain ⟨r, rfl⟩ := good_bool rfl g2
  obtain ⟨d, rfl, _⟩ := good_int (k := .i64) rfl g3
  exact chS_main
end Go.Proofs.Ytbnhmioijeagiaa.Ab
/- Truth values held against each other by !=: rules of the walk. No condition. -/
set_option linter.unusedVariables false
set_option linter.unusedSimpArgs false
namespace Go.Proofs.Ytbnhmioijeagiaa.Ab
section
variable {P : Program} {T : List TI} {N : Nat} {ops : Array Oper} {o : Oper} {rest : List Oper} {Q : Exit → St → Prop} {E F : Env} {M : List Ob}
theorem neb_run {t : Nat} (h : P.underlying t = some .bool) (a b : Bool) (w : World) : (binOp .neq t (.bool a) (.bool b)).run P w = .ok (.bool (!(a == b))) w := by
  have := equalIn_bool h 9999 a b w
  have e : Op.maxDepth = 9999 + 1 := rfl
  simp only [binOp, Op.equal, e]
  simp [this]
theorem aops_neb (hT : TOk P T) {t t' d : Nat} {x y : Operand} {a b : Bool} (ho : o.op = .binOp .neq t x y t') (ht : kindOf T t = some .bool) (hx : opA E x = .bool a) (hy : opA E y = .bool b) (hg : guardOn ops o E = some true) (hd : o.dst = some d) (hN : Nat.blt d N = true)
    (next : AOps P N ops rest Q ⟨(d, .bool (!(a == b))) :: E, M⟩) : AOps P N ops (o :: rest) Q ⟨E, M⟩ := by
  refine aops_val hg (by rw [hd]; exact hN) (.bool (!(a == b))) M (fun K G av w hi => ?_) (by rw [hd]; exact next)
  have hrx := opA_rep hi x
  have hry := opA_rep hi y
  rw [hx] at hrx; rw [hy] at hry
  simp only [Rep] at hrx hry
  refine ⟨.bool (!(a == b)), w, G, ?_, hi.ok, G.le_refl, rfl⟩
  simp only [execOp, ho, hrx, hry, Sem.run_bind, eqGuard_run (P := P) (w := w) (op := .neq) (t := t) (x := x) (y := y) (u := .bool a) (v := .bool b) (.inr (.inr (.inl ⟨_, rfl⟩))), neb_run (kindOf_bool hT ht), Result.andThen_ok]
  rfl
theorem seqT_neb (hT : TOk P T) {l : List Oper} {n : Nat} {t t' d : Nat} {x y : Operand} {a b : Bool} (ho : o.op = .binOp .neq t x y t') (ht : kindOf T t = some .bool) (hx : opA F x = .bool a) (hy : opA F y = .bool b) (hg : guardOn ops o F = some true) (hd : o.dst = some d) (hN : Nat.blt d N = true)
    (next : SeqT P N ops Q M ((d, .bool (!(a == b))) :: F) n l) : SeqT P N ops Q M F (n + 1) (o :: l) := by
  refine seqT_y (x := .bool (!(a == b))) (fun E hE rest Q next => ?_) hd next
  refine aops_neb hT ho ht ((agree_op hE (by rw [ho]; simp [Op.operands])).trans hx) ((agree_op hE (by rw [ho]; simp [Op.operands])).trans hy) ((agree_guard hE).trans hg) hd hN ?_
  rwa [hd] at next
theorem seqO_st (hT : TOk P T) {kp : List Ob} {al : List Nat} {q : Nat} {ll : List Oper} {n : Nat} (k : Nat) {t : Nat} {p x : Operand} {b off : Nat} {i : TI} {y : A} {room : Nat} {cs : List A} (cs' : List A) (M' : List Ob) (hi : al.contains q = true) (ho : o.op = .store t p x) (hp : opA F p = .ref b off) (hx : opA F x = y) (hk : known T t = some i)
    (hM : M[k]? = some ⟨some b, room, cs⟩) (hy : (Nat.beq y.cs.length i.size && cellsOk y) = true) (hoff : off + i.size ≤ cs.length) (hcs : cs.take off ++ (y.cs ++ cs.drop (off + i.size)) = cs') (hM' : M.set k ⟨some b, room, cs'⟩ = M') (hkp : ∀ o ∈ kp, o ∈ M')
    (hg : guardOn ops o F = some true) (hd : o.dst = none) (next : SeqO P N ops Q kp al (q + 1) F M' n ll) : SeqO P N ops Q kp al q F M (n + 1) (o :: ll) := by
  refine SeqO.make (x := fun _ => .any) (M2 := fun _ => M') hi (fun E hE rest Q next => ?_) (fun z o ho => hkp o ho) fun b => ?_
  · refine aops_stk hT k cs' M' ho ((agree_op hE (by rw [ho]; simp [Op.operands])).trans hp) ((agree_op hE (by rw [ho]; simp [Op.operands])).trans hx) hk hM hy hoff hcs hM' ((agree_guard hE).trans hg) hd ?_
    have := next []
    rw [hd] at this
    exact this
  · rw [hd]; exact next
end
end Go.Proofs.Ytbnhmioijeagiaa.Ab

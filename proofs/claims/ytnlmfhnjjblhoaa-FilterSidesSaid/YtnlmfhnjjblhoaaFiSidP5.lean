/- Texts of this proof, one behind the other (Bld2, Bfo1, Bfo2, Bfo3, Bfo4, Bfo5, Neb, UnN1, AbZ, AbW, Fil1, Fil2, Fil3, Fil4, Fil5, Fil6, Fil7, Fil8, FiA1, SmP). No condition. -/
import Derived.Test.YtnlmfhnjjblhoaaFiSidP4
import Derived.WideKeyRuns
import Derived.MapKept
/- Chapter 19's reference, Build: the walk, its beginning. No condition. -/
set_option linter.unusedVariables false
set_option linter.unusedSimpArgs false
namespace Go.Proofs.Ytnlmfhnjjblhoaa.Ab
section
variable {P : Program} {T : List TI} {N : Nat} {ops : Array Oper} {Q : Exit → St → Prop} {o : Oper} {F : Env} {M : List Ob}
theorem seqO_alloc (hT : TOk P T) {kp : List Ob} {al : List Nat} {i : Nat} {ll : List Oper} {m : Nat} {e d : Nat} {ti : TI} (hi : al.contains i = true) (ho : o.op = .alloc e) (hk : known T e = some ti) (hkp : ∀ o ∈ kp, o ∈ M) (hg : guardOn ops o F = some true) (hd : o.dst = some d) (hN : Nat.blt d N = true)
    {cs : List A} (hcs : normL (ti.zero.map ofZ) = some cs) (next : ∀ b, SeqO P N ops Q kp al (i + 1) ((d, .ref b 0) :: F) (⟨some b, ti.zero.length, cs⟩ :: M) m ll) : SeqO P N ops Q kp al i F M (m + 1) (o :: ll) := by
  refine SeqO.make (x := fun z => .ref (z.headD 0) 0) (M2 := fun z => ⟨some (z.headD 0), ti.zero.length, cs⟩ :: M) hi (fun E hE rest Q next => ?_) (fun z o ho => List.mem_cons_of_mem _ (hkp o ho)) fun b => ?_
  · exact aops_alloc hT ho hk ((agree_guard hE).trans hg) hd hN hcs fun b => by have := next [b]; rwa [hd] at this
  · rw [hd]; exact next _
end

attribute [local irreducible] thenA inBlockA ACode AOps put IntKind.wrap

theorem ndK_len (n : Nd) : (ndC n).length = 4 := rfl
theorem bcut_calls {m : Nat} (hm : m ≤ 100000) (M : List Ob) : ACalls Try.prog 47 [.int .i64 m, .int .i64 0, .int .i64 100000] M (fun r M' => r = .int .i64 m ∧ M' = M) := by
  refine acalls_of_code 18 Try.func47 rfl rfl rfl ?_
  repeat' (first | refine aops_end ?_ | refine aops_pbf tok rfl (by first | omega | decide) rfl rfl rfl ?_ | refine aops_p tok rfl rfl rfl rfl ?_ | refine acode_if rfl ?_ | refine acode_seq ?_ | refine acode_region ?_ | refine acode_block ?_ | refine acode_skip ?_ | refine then_n ?_ | refine block_n ?_)
  refine acode_ret ?_
  skip
  exact ⟨_, ⟨rfl, rfl⟩, resOf_tmp rfl⟩
def allW (all : List (List Wy)) : List A := all.map fun m => A.psl m.length (encs wyCC m)
theorem allW_len (all : List (List Wy)) : (allW all).length = all.length := by simp [allW]
theorem wyCC_len (w : Wy) : (wyCC w).length = 2 := rfl
theorem encs_way (j : Int) (l : List (List Ky)) : encs wyCC (l.map fun w => (j, w)) = encs (wyC j) l := by
  induction l with
  | nil => rfl
  | cons w l ih => simp only [encs, List.map_cons, List.flatMap_cons] at *; rw [ih]; rfl
def BuildR (g : Gr) (ks : List Int) (lim : Nat) (M : List Ob) : A → List Ob → Prop := fun r M' => ((∃ a e, e ≠ 0 ∧ (buildF g ks lim).1 = none ∧ r = .tup [foA ⟨[], 0⟩, .int .i64 a, .int .i64 e]) ∨ (∃ f, (buildF g ks lim).1 = some f ∧ FoOk f ∧ FoRng f ∧ r = .tup [foA f, .int .i64 ks.length, .int .i64 0])) ∧ M' = M

set_option maxHeartbeats 32000000 in
theorem build_calls {g : Gr} {ks : List Int} {N n lim : Nat} (hg : GrOk g) (h : chkF g = 0) (hN : g.names = N) (hks : ks.length = n) (hn : n ≤ 2000) (hlim : lim ≤ 100000) (M : List Ob) :
    ACalls Try.prog 21 [grA g, .psl ks.length (ints ks), .int .i64 lim] M (BuildR g ks lim M) := by
  subst hks
  have hform : (formF g).2 = 0 := by
    unfold chkF at h
    split at h
    · rename_i h1; exact absurd h h1
    · rename_i h1; exact Classical.not_not.1 h1
  obtain ⟨fo, hN'⟩ := form_ok hform
  have hNN : g.names.toNat = N := by omega
  rw [hNN] at fo
  have hN1 := fo.n1
  have hlt : ∀ r ∈ g.rules, r.left.toNat < N := fun r hr => by have := fo.left r hr; unfold isName at this; omega
  have hrl := fo.rl
  have hB : buildF g ks lim = if hasF N ks.length (chF g ks N ks.length) g.start 0 ks.length = false then ((none : Option Fo), (10 : Int)) else match bldQ g ks ks.length (chF g ks N ks.length) lim (lim + 2) 0 [(g.start, 0, (ks.length : Int))] [] 1 with
    | none => (none, 9)
    | some x => (some (bldF x.1 x.2), 0) := by unfold buildF; rw [hNN]; rfl
  have hFok : FOk (N * (ks.length + 1)) ks.length (chF g ks N ks.length) := chF_ok hlt
  refine acalls_of_code 312 Try.func21 rfl rfl rfl ?_
  repeat (first | refine acode_seq ?_ | refine acode_region ?_)
  refine aops_boxf rfl rfl rfl rfl rfl rfl rfl ?_
  skip
  refine aops_alloc tok rfl rfl rfl rfl rfl rfl fun fb => ?_
  repeat (first | refine aops_end ?_ | refine aops_p tok rfl rfl rfl rfl ?_ | refine acode_seq ?_ | refine acode_region ?_)
  refine aops_callx Try.func44 rfl rfl rfl rfl (newChart_calls hg h hN rfl hn _) rfl rfl rfl ?_
  generalize chF g ks N ks.length = F at *
  repeat' (first | refine aops_end ?_ | (refine aops_pn tok rfl rfl rfl rfl ?_ ?_ <;> intro e_) | refine aops_p tok rfl rfl rfl rfl ?_ | refine acode_it rfl ?_ | refine acode_if rfl ?_ | refine aops_stn tok rfl rfl rfl rfl rfl rfl rfl rfl rfl ?_ | refine acode_seq ?_ | refine acode_region ?_ | refine acode_skip ?_ | refine then_n ?_)
  try any_goals (exfalso; omega)
  refine aops_callx Try.func45 rfl rfl rfl rfl (has_calls hN rfl hn hFok _) rfl rfl rfl ?_
  cases hh : hasF N ks.length F g.start 0 ks.length with
  | false =>
    rw [hh, if_pos rfl] at hB
    repeat' (first | refine aops_end ?_ | refine aops_p tok rfl rfl rfl rfl ?_ | refine acode_it rfl ?_ | refine acode_seq ?_ | refine acode_region ?_)
    refine aops_call Try.func46 rfl rfl rfl rfl (prefix_calls hg h fo hform hN (by omega) _) rfl rfl ?_
    rintro y M1 ⟨⟨a0, rfl⟩, hM1⟩
    rw [hM1]
    repeat (first | refine aops_put rfl ?_ | refine aops_end ?_ | refine aops_p tok rfl rfl rfl rfl ?_ | refine aops_stn tok rfl rfl rfl rfl rfl rfl rfl rfl rfl ?_)
    refine acode_freezeV (V := [⟨some fb, 2, [.nils, .int .i64 0]⟩]) [(6, .pp (foC ⟨[], 0⟩)), (7, .int .i64 a0), (8, .int .i64 10)] ⟨.ref (.head _) (.cons .nils (.cons (.refl _) .nil)), .refl _, .refl _, trivial⟩ ?_
    refine acode_ret ?_
    repeat (refine ret_then ?_)
    exact ⟨_, ⟨.inl ⟨a0, 10, by omega, by rw [hB], rfl⟩, rfl⟩, _, rfl, resOf_pp tok rfl rfl rfl⟩
  | true =>
    rw [hh, if_neg (by simp)] at hB
    repeat' (first | refine aops_end ?_ | refine aops_p tok rfl rfl rfl rfl ?_ | refine acode_if rfl ?_ | refine acode_seq ?_ | refine acode_region ?_ | refine acode_skip ?_ | refine then_n ?_)
    refine aops_callx Try.func47 rfl rfl rfl rfl (bcut_calls hlim _) rfl rfl rfl ?_
    repeat (first | refine aops_end ?_ | refine aops_p tok rfl rfl rfl rfl ?_ | refine acode_seq ?_ | refine acode_region ?_)
    refine aops_lito tok rfl rfl rfl rfl rfl rfl rfl fun kb => ?_
    repeat (first | refine aops_end ?_ | refine aops_p tok rfl rfl rfl rfl ?_ | refine acode_seq ?_ | refine acode_region ?_ | refine acode_block ?_)
    refine acode_adopt 13 1 rfl ?_
    have hk0 : kyOk N ks.length (g.start, 0, (ks.length : Int)) := by
      have := fo.st; unfold isName at this
      exact ⟨this.1, by simp only; omega, by simp, by simp, by simp⟩
    generalize hfin : bldQ g ks ks.length F lim (lim + 2) 0 [(g.start, 0, (ks.length : Int))] [] 1 = fin at hB
    refine acode_loopS (ι := Nat × Nat × List Ky × List (List Wy) × Nat × (Option Nat × Nat) × (Option Nat × Nat)) (fun p => [(2, .int .i64 lim), (3, .pp (grC g)), (6, .ref fb 0), (9, .pp (chC g ks N ks.length F)), (11, .int .i64 ks.length), (12, .own p.2.2.2.2.2.1.1 p.2.2.1.length p.2.2.2.2.2.1.2), (13, .own p.2.2.2.2.2.2.1 p.2.2.2.1.length p.2.2.2.2.2.2.2), (14, .int .i64 p.2.2.2.2.1), (15, .int .i64 p.2.1)]) (fun p => ⟨p.2.2.2.2.2.2.1, p.2.2.2.2.2.2.2 * 1, allW p.2.2.2.1⟩ :: ⟨p.2.2.2.2.2.1.1, p.2.2.2.2.2.1.2 * 3, encs f3C p.2.2.1⟩ :: ⟨some fb, 2, [.nils, .int .i64 0]⟩ :: M) (fun p => p.1)
      (fun p => bldQ g ks ks.length F lim p.1 p.2.1 p.2.2.1 p.2.2.2.1 p.2.2.2.2.1 = fin ∧ p.1 + p.2.1 = lim + 2 ∧ p.2.1 ≤ p.2.2.1.length ∧ p.2.2.2.1.length = p.2.1 ∧ p.2.2.1.length ≤ p.2.2.2.2.1 ∧ p.2.2.2.2.1 ≤ lim + 1 ∧ (∀ k ∈ p.2.2.1, kyOk N ks.length k) ∧ 0 < p.2.2.1.length ∧ AllOk N ks.length lim p.2.2.2.1) (lim + 2, 0, [(g.start, 0, (ks.length : Int))], [], 1, (some kb, 1), (none, 0)) ⟨hfin, by simp, by simp, by simp, by simp, by simp only; omega, fun k hk => by rw [List.mem_singleton.1 hk]; exact hk0, by simp, by simp [AllOk]⟩ ⟨rfl, rfl, rfl, rfl, rfl, rfl, rfl, rfl, rfl, trivial⟩ rfl ?_
    clear hfin hk0
    rintro ⟨q, i, keys, all, c, ⟨kb, kcap⟩, ab, acap⟩ ⟨hfin, hqi, hik, hal, hkc, hcl, hko, hk1, hall⟩
    simp only at hfin hqi hik hal hkc hcl hko hk1 hall ⊢
    obtain ⟨q', rfl⟩ : ∃ q', q = q' + 1 := ⟨q - 1, by omega⟩
    unfold bldQ at hfin
    repeat (first | refine aops_end ?_ | refine aops_p tok rfl rfl rfl rfl ?_ | refine acode_seq ?_ | refine acode_region ?_)
    refine acode_id rfl (fun e => ?_) (fun e => ?_)
    · have hil : i < keys.length := by omega
      obtain ⟨k, hk⟩ : ∃ k, keys[i]? = some k := ⟨keys[i], List.getElem?_eq_getElem hil⟩
      rw [hk] at hfin
      simp only at hfin
      refine acode_somed 12 rfl (by omega) fun cb hcb => ?_
      subst hcb
      have hkk := hko k (List.mem_of_getElem? hk)
      obtain ⟨s, fr, to⟩ := k
      obtain ⟨s0, s1, f0, f1, t1⟩ := hkk
      simp only at s0 s1 f0 f1 t1
      obtain ⟨fr, rfl⟩ := Int.eq_ofNat_of_zero_le f0
      obtain ⟨to, rfl⟩ := Int.eq_ofNat_of_zero_le (show 0 ≤ to by omega)
      have hc0 := f3_cell (q := 0) hk rfl
      have hc1 := f3_cell (q := 1) hk rfl
      have hc2 := f3_cell (q := 2) hk rfl
      have hmok := mineF_ok (g := g) (ks := ks) (n := ks.length) (F := F) (lim := lim) (k := (s, (fr : Int), (to : Int))) fo hN (by simp only [Int.toNat_natCast]; omega) c
      have hmle := mineF_le g ks ks.length lim F (s, (fr : Int), (to : Int)) c
      generalize hmi : mineF g ks ks.length F lim (s, (fr : Int), (to : Int)) c = mi at hfin hmok hmle
      unfold mineF at hmi
      repeat (first | refine acode_seq ?_ | refine acode_region ?_ | refine acode_block ?_ | refine acode_skip ?_ | refine then_n ?_ | refine block_n ?_)
      repeat (refine aops_p tok rfl rfl rfl rfl ?_)
      refine aops_end ?_
      refine acode_adopt 16 2 rfl ?_
      refine acode_seq ?_
      refine acode_joinI (ι := Option Nat × Nat) (fun p => [(2, .int .i64 lim), (3, .pp (grC g)), (6, .ref fb 0), (9, .pp (chC g ks N ks.length F)), (11, .int .i64 ks.length), (12, .own (some cb) keys.length kcap), (13, .own ab all.length acap), (14, .int .i64 mi.2), (15, .int .i64 i), (16, .own p.1 mi.1.length p.2)]) (fun p => ⟨p.1, p.2 * 2, encs wyCC mi.1⟩ :: ⟨ab, acap * 1, allW all⟩ :: ⟨some cb, kcap * 3, encs f3C keys⟩ :: ⟨some fb, 2, [.nils, .int .i64 0]⟩ :: M) (fun p => mi.1.length ≤ mi.2 ∧ mi.2 ≤ 2 * lim + 1) ?_ ?_
      · repeat (first | refine aops_end ?_ | refine aops_p tok rfl rfl rfl rfl ?_ | refine acode_seq ?_ | refine acode_region ?_ | refine acode_block ?_)
        refine acode_loopS (ι := Nat × List Wy × Nat × Option Nat × Nat) (fun p => [(2, .int .i64 lim), (3, .pp (grC g)), (6, .ref fb 0), (9, .pp (chC g ks N ks.length F)), (11, .int .i64 ks.length), (12, .own (some cb) keys.length kcap), (13, .own ab all.length acap), (14, .int .i64 p.2.2.1), (15, .int .i64 i), (16, .own p.2.2.2.1 p.2.1.length p.2.2.2.2), (17, .int .i64 p.1)]) (fun p => ⟨p.2.2.2.1, p.2.2.2.2 * 2, encs wyCC p.2.1⟩ :: ⟨ab, acap * 1, allW all⟩ :: ⟨some cb, kcap * 3, encs f3C keys⟩ :: ⟨some fb, 2, [.nils, .int .i64 0]⟩ :: M) (fun p => g.rules.length - p.1) (fun p => p.1 ≤ g.rules.length ∧ ((List.range g.rules.length).drop p.1).foldl (mineS g ks ks.length F lim (s, (fr : Int), (to : Int))) (p.2.1, p.2.2.1) = mi ∧ p.2.1.length ≤ p.2.2.1 ∧ p.2.2.1 ≤ 2 * lim + 1) (0, [], c, none, 0) ⟨Nat.zero_le _, hmi, by simp, by simp only; omega⟩ ⟨rfl, rfl, rfl, rfl, rfl, rfl, rfl, rfl, rfl, rfl, rfl, trivial⟩ rfl ?_
        clear hmi
        rintro ⟨j, mine, c, mo, mc⟩ ⟨hj, hmi, hml, hc2l⟩
        simp only at hj hmi hml hc2l ⊢
        by_cases hjl : j < g.rules.length
        · by_cases hcl2 : c ≤ lim
          · rw [range_drop hjl, List.foldl_cons] at hmi
            have hjr : g.rules[(j : Int).toNat]? = some (ruleAt g j) := ruleAt_at (by omega) (by omega)
            have hrm := List.mem_of_getElem? hjr
            have hjr2 : g.rules[j]? = some (ruleAt g j) := by simpa using hjr
            have hst : mineS g ks ks.length F lim (s, (fr : Int), (to : Int)) (mine, c) j = if (ruleAt g j).left = s then (mine ++ (waysF ks ks.length F (ruleAt g j).right fr to lim).map (fun w => ((j : Int), w)), c + (waysF ks ks.length F (ruleAt g j).right fr to lim).length) else (mine, c) := by
              unfold mineS
              by_cases hls : (ruleAt g j).left = s
              · rw [if_pos ⟨hcl2, hls⟩, if_pos hls]; rfl
              · rw [if_neg (fun h => hls h.2), if_neg hls]
            have hwl := waysF_len (ks := ks) (n := ks.length) (F := F) (ruleAt g j).right fr to lim
            have hwc := ways_calls (g := g) (ks := ks) (N := N) (n := ks.length) (F := F) (r := (j : Int)) hN rfl hn (by have := fo.k1; omega) hFok (ruleAt g j).right fr to lim (by have := fo.len _ hrm; omega) (fo.sym _ hrm) (by omega) (by omega) (by omega)
            rw [hst] at hmi
            generalize waysF ks ks.length F (ruleAt g j).right fr to lim = ws at *
            repeat' (first | refine aops_end ?_ | refine aops_pbt tok rfl (by first | omega | decide) rfl rfl rfl ?_ | refine aops_pet tok rfl (by omega) rfl rfl rfl ?_ | refine aops_p tok rfl rfl rfl rfl ?_ | refine acode_it rfl ?_ | refine acode_seq ?_ | refine acode_region ?_ | refine acode_block ?_ | refine acode_skip ?_ | refine then_n ?_)
            refine acode_drawT 12 mixed (by kernel_rfl) (by kernel_rfl) ?_
            repeat (refine seqT_p tok rfl rfl rfl rfl ?_)
            refine seqT_ix tok (ruC (ruleAt g j)) rfl rfl rfl rfl (by omega) (by omega) (by simp [ruC]) (encs_at (e := ruC) (s := 3) (fun _ => rfl) hjr) rfl rfl rfl ?_
            repeat (refine seqT_p tok rfl rfl rfl rfl ?_)
            refine seqT_ixo tok rfl rfl rfl rfl (by omega) (by omega) rfl rfl rfl ?_
            repeat (refine seqT_p tok rfl rfl rfl rfl ?_)
            refine seqT_ld tok 2 (y := .int .i64 s) rfl rfl rfl rfl (by rw [headed_eq]; exact hc0) rfl rfl rfl ?_
            by_cases hls : (ruleAt g j).left = s
            · rw [if_pos hls] at hmi
              repeat' ((refine seqT_pn tok rfl rfl rfl rfl ?_ ?_ <;> intro e_))
              try any_goals (exfalso; omega)
              refine SeqT.done ?_
              repeat' (first | refine aops_end ?_ | refine acode_if rfl ?_ | refine acode_seq ?_ | refine acode_skip ?_ | refine then_n ?_)
              refine acode_drawT 20 mixed (by kernel_rfl) (by kernel_rfl) ?_
              repeat (refine seqT_p tok rfl rfl rfl rfl ?_)
              refine seqT_ix tok (ruC (ruleAt g j)) rfl rfl rfl rfl (by omega) (by omega) (by simp [ruC]) (encs_at (e := ruC) (s := 3) (fun _ => rfl) hjr) rfl rfl rfl ?_
              repeat (refine seqT_p tok rfl rfl rfl rfl ?_)
              refine seqT_ixo tok rfl rfl rfl rfl (by omega) (by omega) rfl rfl rfl ?_
              repeat (refine seqT_p tok rfl rfl rfl rfl ?_)
              refine seqT_ld tok 2 (y := .int .i64 fr) rfl rfl rfl rfl (by rw [headed_eq]; exact hc1) rfl rfl rfl ?_
              repeat (refine seqT_p tok rfl rfl rfl rfl ?_)
              refine seqT_ixo tok rfl rfl rfl rfl (by omega) (by omega) rfl rfl rfl ?_
              repeat (refine seqT_p tok rfl rfl rfl rfl ?_)
              refine seqT_ld tok 2 (y := .int .i64 to) rfl rfl rfl rfl (by rw [headed_eq]; exact hc2) rfl rfl rfl ?_
              repeat (refine seqT_p tok rfl rfl rfl rfl ?_)
              refine seqT_call _ Try.func48 rfl rfl rfl rfl (hwc _) rfl rfl rfl ?_
              skip
              refine SeqT.done ?_
              repeat (first | refine aops_end ?_ | refine aops_a tok rfl (by omega) (by omega) rfl rfl rfl ?_ | refine aops_p tok rfl rfl rfl rfl ?_ | refine acode_seq ?_ | refine acode_region ?_)
              refine aops_append tok 0 (m := ws.length) (ds := encs (wyC j) ws) rfl rfl rfl (.inl rfl) rfl rfl (encs_len wyCC_len mine) (encs_len (wyC_len _) ws) (encs_cell (fun _ => rfl) _) rfl (by show _ * 32 ≤ _; omega) (by omega) rfl rfl fun ob' cap' => ?_
              repeat (first | refine aops_put rfl ?_ | refine aops_end ?_ | refine aops_endb ?_ | refine aops_a tok rfl (by omega) (by omega) rfl rfl rfl ?_ | refine aops_p tok rfl rfl rfl rfl ?_ | refine acode_region ?_ | refine then_n ?_)
              exact ⟨(j + 1, mine ++ ws.map (fun w => ((j : Int), w)), c + ws.length, ob', cap'), ⟨by simp only; omega, hmi, by simp only [List.length_append, List.length_map]; omega, by simp only; omega⟩, by simp only; omega, ⟨rfl, rfl, rfl, rfl, rfl, rfl, rfl, rfl, rfl, by rw [List.length_append, List.length_map]; rfl, rfl, trivial⟩, by simp only [encs_app, encs_way]; rfl⟩
            · rw [if_neg hls] at hmi
              repeat' ((refine seqT_pn tok rfl rfl rfl rfl ?_ ?_ <;> intro e_))
              try any_goals (exfalso; omega)
              refine SeqT.done ?_
              repeat' (first | refine aops_end ?_ | refine acode_it rfl ?_)
              refine acode_exit ?_
              repeat (first | refine exit_then ?_ | refine exit_here ?_ | refine then_n ?_)
              repeat (first | refine aops_end ?_ | refine aops_a tok rfl (by omega) (by omega) rfl rfl rfl ?_ | refine aops_p tok rfl rfl rfl rfl ?_ | refine acode_region ?_)
              exact ⟨(j + 1, mine, c, mo, mc), ⟨by simp only; omega, hmi, hml, hc2l⟩, by simp only; omega, ⟨rfl, rfl, rfl, rfl, rfl, rfl, rfl, rfl, rfl, rfl, rfl, trivial⟩, rfl⟩
          · have hfull : ∀ L : List Nat, L.foldl (mineS g ks ks.length F lim (s, (fr : Int), (to : Int))) (mine, c) = (mine, c) := by
              intro L
              induction L with
              | nil => rfl
              | cons x L ih => rw [List.foldl_cons, show mineS g ks ks.length F lim (s, (fr : Int), (to : Int)) (mine, c) x = (mine, c) by unfold mineS; rw [if_neg (fun h => hcl2 h.1)]]; exact ih
            rw [hfull] at hmi
            subst hmi
            repeat' (first | refine aops_end ?_ | refine aops_pbt tok rfl (by first | omega | decide) rfl rfl rfl ?_ | refine aops_pbf tok rfl (by first | omega | decide) rfl rfl rfl ?_ | refine aops_pet tok rfl (by omega) rfl rfl rfl ?_ | refine aops_p tok rfl rfl rfl rfl ?_ | refine acode_if rfl ?_ | refine acode_seq ?_ | refine acode_region ?_)
            refine acode_exit ?_
            repeat (first | refine exit_then ?_ | refine exit_here ?_ | refine then_n ?_)
            exact ⟨(mo, mc), ⟨hml, hc2l⟩, ⟨rfl, rfl, rfl, rfl, rfl, rfl, rfl, rfl, rfl, rfl, trivial⟩, rfl⟩
        · rw [List.drop_of_length_le (by simp; omega), List.foldl_nil] at hmi
          subst hmi
          repeat' (first | refine aops_end ?_ | refine aops_o rfl rfl rfl ?_ | refine aops_pbf tok rfl (by first | omega | decide) rfl rfl rfl ?_ | refine aops_p tok rfl rfl rfl rfl ?_ | refine acode_if rfl ?_ | refine acode_seq ?_ | refine acode_region ?_)
          refine acode_exit ?_
          repeat (first | refine exit_then ?_ | refine exit_here ?_ | refine then_n ?_)
          exact ⟨(mo, mc), ⟨hml, hc2l⟩, ⟨rfl, rfl, rfl, rfl, rfl, rfl, rfl, rfl, rfl, rfl, trivial⟩, rfl⟩
      rintro ⟨mo, mc⟩ ⟨hml, hc2l⟩
      simp only at hml hc2l ⊢
      refine acode_pub0 16 2 rfl rfl (encs_len wyCC_len _) rfl ?_
      generalize hnk : mi.1.foldl (newW lim) (keys, mi.2) = nk at hfin
      repeat (first | refine acode_seq ?_ | refine acode_region ?_ | refine acode_block ?_ | refine acode_skip ?_ | refine then_n ?_ | refine block_n ?_)
      repeat (refine aops_p tok rfl rfl rfl rfl ?_)
      refine aops_end ?_
      refine acode_joinI (ι := Option Nat × Nat) (fun p => [(2, .int .i64 lim), (3, .pp (grC g)), (6, .ref fb 0), (9, .pp (chC g ks N ks.length F)), (11, .int .i64 ks.length), (12, .own p.1 nk.1.length p.2), (13, .own ab all.length acap), (14, .int .i64 nk.2), (15, .int .i64 i), (16, .psl mi.1.length (encs wyCC mi.1))]) (fun p => ⟨ab, acap * 1, allW all⟩ :: ⟨p.1, p.2 * 3, encs f3C nk.1⟩ :: ⟨some fb, 2, [.nils, .int .i64 0]⟩ :: M) (fun p => (∀ k ∈ nk.1, kyOk N ks.length k) ∧ keys.length ≤ nk.1.length ∧ nk.1.length ≤ nk.2 ∧ nk.2 ≤ 2 * lim + 9) ?_ ?_
      · repeat (refine acode_block ?_)
        refine acode_loopS (ι := Nat × List Ky × Nat × Option Nat × Nat) (fun p => [(2, .int .i64 lim), (3, .pp (grC g)), (6, .ref fb 0), (9, .pp (chC g ks N ks.length F)), (11, .int .i64 ks.length), (12, .own p.2.2.2.1 p.2.1.length p.2.2.2.2), (13, .own ab all.length acap), (14, .int .i64 p.2.2.1), (15, .int .i64 i), (16, .psl mi.1.length (encs wyCC mi.1)), (19, .int .i64 p.1)]) (fun p => ⟨ab, acap * 1, allW all⟩ :: ⟨p.2.2.2.1, p.2.2.2.2 * 3, encs f3C p.2.1⟩ :: ⟨some fb, 2, [.nils, .int .i64 0]⟩ :: M) (fun p => mi.1.length - p.1) (fun p => p.1 ≤ mi.1.length ∧ (mi.1.drop p.1).foldl (newW lim) (p.2.1, p.2.2.1) = nk ∧ (∀ k ∈ p.2.1, kyOk N ks.length k) ∧ keys.length ≤ p.2.1.length ∧ p.2.1.length ≤ p.2.2.1 ∧ p.2.2.1 ≤ 2 * lim + 9) (0, keys, mi.2, some cb, kcap) ⟨Nat.zero_le _, hnk, hko, Nat.le_refl _, by simp only; omega, by simp only; omega⟩ ⟨rfl, rfl, rfl, rfl, rfl, rfl, rfl, rfl, rfl, rfl, rfl, trivial⟩ rfl ?_
        clear hnk
        rintro ⟨k, keys2, c2, kb2, kcap2⟩ ⟨hkl, hnk, hko2, hkg, hkc2, hc2⟩
        simp only at hkl hnk hko2 hkg hkc2 hc2 ⊢
        by_cases hkl2 : k < mi.1.length
        · by_cases hcl2 : c2 ≤ lim
          · obtain ⟨w, hw⟩ : ∃ w, mi.1[k]? = some w := ⟨mi.1[k], List.getElem?_eq_getElem hkl2⟩
            obtain ⟨hw8, hwg⟩ := hmok w (List.mem_of_getElem? hw)
            have hww := encs_at (e := wyCC) (s := 2) (fun _ => rfl) (i := (k : Int).toNat) (by simpa using hw)
            have hdw : mi.1.drop k = w :: mi.1.drop (k + 1) := by
              rw [List.drop_eq_getElem_cons hkl2]
              rw [List.getElem?_eq_getElem hkl2] at hw
              rw [Option.some.inj hw]
            rw [hdw, List.foldl_cons, show newW lim (keys2, c2) w = w.2.foldl newS (keys2, c2) by unfold newW; rw [if_pos hcl2]] at hnk
            repeat' (first | refine aops_end ?_ | refine aops_pbt tok rfl (by first | omega | decide) rfl rfl rfl ?_ | refine aops_pet tok rfl (by omega) rfl rfl rfl ?_ | refine aops_p tok rfl rfl rfl rfl ?_ | refine acode_it rfl ?_ | refine acode_seq ?_ | refine acode_region ?_ | refine acode_block ?_ | refine acode_skip ?_ | refine then_n ?_)
            try any_goals (exfalso; omega)
            refine acode_loopS (ι := Nat × List Ky × Nat × Option Nat × Nat) (fun p => [(2, .int .i64 lim), (3, .pp (grC g)), (6, .ref fb 0), (9, .pp (chC g ks N ks.length F)), (11, .int .i64 ks.length), (12, .own p.2.2.2.1 p.2.1.length p.2.2.2.2), (13, .own ab all.length acap), (14, .int .i64 p.2.2.1), (15, .int .i64 i), (16, .psl mi.1.length (encs wyCC mi.1)), (19, .int .i64 k), (20, .int .i64 p.1)]) (fun p => ⟨ab, acap * 1, allW all⟩ :: ⟨p.2.2.2.1, p.2.2.2.2 * 3, encs f3C p.2.1⟩ :: ⟨some fb, 2, [.nils, .int .i64 0]⟩ :: M) (fun p => w.2.length - p.1) (fun p => p.1 ≤ w.2.length ∧ (w.2.drop p.1).foldl newS (p.2.1, p.2.2.1) = w.2.foldl newS (keys2, c2) ∧ (∀ k ∈ p.2.1, kyOk N ks.length k) ∧ keys.length ≤ p.2.1.length ∧ p.2.1.length ≤ p.2.2.1 ∧ p.2.2.1 ≤ lim + p.1) (0, keys2, c2, kb2, kcap2) ⟨Nat.zero_le _, rfl, hko2, hkg, hkc2, by simp only; omega⟩ ⟨rfl, rfl, rfl, rfl, rfl, rfl, rfl, rfl, rfl, rfl, rfl, rfl, trivial⟩ rfl ?_
            rintro ⟨j, keys3, c3, kb3, kcap3⟩ ⟨hj, hnk3, hko3, hkg3, hkc3, hc3⟩
            simp only at hj hnk3 hko3 hkg3 hkc3 hc3 ⊢
            repeat (first | refine aops_p tok rfl rfl rfl rfl ?_ | refine acode_seq ?_ | refine acode_region ?_)
            refine aops_ix tok (wyCC w) rfl rfl rfl rfl (by omega) (by omega) (by simp [wyCC, wyC]) hww rfl rfl rfl ?_
            repeat (first | refine aops_end ?_ | refine aops_p tok rfl rfl rfl rfl ?_)
            refine acode_id rfl (fun e2 => ?_) (fun e2 => ?_)
            · have hjl : j < w.2.length := by omega
              obtain ⟨y, hy⟩ : ∃ y, w.2[j]? = some y := ⟨w.2[j], List.getElem?_eq_getElem hjl⟩
              have hyg := hwg y (List.mem_of_getElem? hy)
              have hdy : w.2.drop j = y :: w.2.drop (j + 1) := by
                rw [List.drop_eq_getElem_cons hjl]
                rw [List.getElem?_eq_getElem hjl] at hy
                rw [Option.some.inj hy]
              rw [hdy, List.foldl_cons] at hnk3
              refine acode_somed 12 rfl (by omega) fun cb3 hcb3 => ?_
              subst hcb3
              repeat (first | refine aops_p tok rfl rfl rfl rfl ?_ | refine acode_seq ?_ | refine acode_region ?_ | refine acode_block ?_ | refine acode_skip ?_ | refine then_n ?_)
              refine aops_ix tok (wyCC w) rfl rfl rfl rfl (by omega) (by omega) (by simp [wyCC, wyC]) hww rfl rfl rfl ?_
              repeat (refine aops_p tok rfl rfl rfl rfl ?_)
              refine aops_ix tok (f3C y) rfl rfl rfl rfl (by omega) (by omega) (by simp [f3C]) (encs_at (e := f3C) (s := 3) (fun _ => rfl) (i := (j : Int).toNat) (by simpa using hy)) rfl rfl rfl ?_
              repeat (refine aops_p tok rfl rfl rfl rfl ?_)
              refine aops_alloc tok rfl rfl rfl rfl rfl rfl fun xb => ?_
              repeat (refine aops_stn tok rfl rfl rfl rfl rfl rfl rfl rfl rfl ?_)
              refine aops_pubref0 21 rfl ?_
              by_cases hy0 : 0 ≤ y.1
              · have hyk : kyOk N ks.length y := by
                  have h1 := hyg.1
                  have h2 := hyg.2 hy0
                  unfold kyOk; omega
                repeat' (first | refine aops_end ?_ | refine aops_pbt tok rfl (by first | omega | decide) rfl rfl rfl ?_ | refine aops_pet tok rfl (by omega) rfl rfl rfl ?_ | refine aops_p tok rfl rfl rfl rfl ?_ | refine acode_seq ?_ | refine acode_region ?_)
                try any_goals (exfalso; omega)
                refine aops_callx Try.func49 rfl rfl rfl rfl (acalls_view (.cons (.own (sz := 3) (.tail _ (.head _)) rfl (encs_len (e := f3C) (s := 3) (fun _ => rfl) keys3) (by decide) (VwL.rfl' _)) (.cons (.refl _) .nil)) (find_calls (by omega) []) rfl) rfl rfl rfl ?_
                by_cases hf : findF y keys3 0 < 0
                · rw [show newS (keys3, c3) y = (keys3 ++ [y], c3 + 1) by unfold newS; rw [if_pos ⟨hy0, hf⟩]] at hnk3
                  repeat' (first | refine aops_end ?_ | refine aops_pbt tok rfl (by first | omega | decide) rfl rfl rfl ?_ | refine aops_pet tok rfl (by omega) rfl rfl rfl ?_ | refine aops_p tok rfl rfl rfl rfl ?_ | refine acode_it rfl ?_ | refine acode_seq ?_ | refine acode_region ?_)
                  try any_goals (exfalso; omega)
                  refine aops_litn tok rfl rfl rfl rfl rfl rfl rfl ?_
                  refine aops_append tok 1 (m := 1) (ds := f3C y) rfl rfl rfl (.inl rfl) rfl rfl (encs_len (e := f3C) (s := 3) (fun _ => rfl) keys3) rfl rfl rfl (by show _ * 24 ≤ _; omega) (by omega) rfl rfl fun ob' cap' => ?_
                  repeat (first | refine aops_put rfl ?_ | refine aops_end ?_ | refine aops_endb ?_ | refine aops_a tok rfl (by omega) (by omega) rfl rfl rfl ?_ | refine aops_p tok rfl rfl rfl rfl ?_ | refine acode_region ?_ | refine then_n ?_)
                  refine ⟨(j + 1, keys3 ++ [y], c3 + 1, ob', cap'), ⟨by simp only; omega, hnk3, fun z hz => ?_, by simp only [List.length_append, List.length_singleton]; omega, by simp only [List.length_append, List.length_singleton]; omega, by simp only; omega⟩, by simp only; omega, ⟨rfl, rfl, rfl, rfl, rfl, by rw [List.length_append]; rfl, rfl, rfl, rfl, rfl, rfl, rfl, trivial⟩, by simp only [encs_app]; simp [encs]⟩
                  rcases List.mem_append.1 hz with h1 | h1
                  · exact hko3 z h1
                  · rw [List.mem_singleton.1 h1]; exact hyk
                · rw [show newS (keys3, c3) y = (keys3, c3) by unfold newS; rw [if_neg (fun h => hf h.2)]] at hnk3
                  repeat' (first | refine aops_end ?_ | refine aops_a tok rfl (by omega) (by omega) rfl rfl rfl ?_ | refine aops_pbf tok rfl (by first | omega | decide) rfl rfl rfl ?_ | refine aops_p tok rfl rfl rfl rfl ?_ | refine acode_if rfl ?_ | refine acode_region ?_ | refine acode_skip ?_ | refine then_n ?_ | refine block_n ?_)
                  try any_goals (exfalso; omega)
                  exact ⟨(j + 1, keys3, c3, some cb3, kcap3), ⟨by simp only; omega, hnk3, hko3, hkg3, hkc3, by simp only; omega⟩, by simp only; omega, ⟨rfl, rfl, rfl, rfl, rfl, rfl, rfl, rfl, rfl, rfl, rfl, rfl, trivial⟩, rfl⟩
              · rw [show newS (keys3, c3) y = (keys3, c3) by unfold newS; rw [if_neg (fun h => hy0 h.1)]] at hnk3
                repeat' (first | refine aops_end ?_ | refine aops_o rfl rfl rfl ?_ | refine aops_a tok rfl (by omega) (by omega) rfl rfl rfl ?_ | refine aops_pbf tok rfl (by first | omega | decide) rfl rfl rfl ?_ | refine aops_p tok rfl rfl rfl rfl ?_ | refine acode_if rfl ?_ | refine acode_seq ?_ | refine acode_region ?_ | refine acode_skip ?_ | refine then_n ?_ | refine block_n ?_)
                try any_goals (exfalso; omega)
                exact ⟨(j + 1, keys3, c3, some cb3, kcap3), ⟨by simp only; omega, hnk3, hko3, hkg3, hkc3, by simp only; omega⟩, by simp only; omega, ⟨rfl, rfl, rfl, rfl, rfl, rfl, rfl, rfl, rfl, rfl, rfl, rfl, trivial⟩, rfl⟩
            · obtain rfl : j = w.2.length := by omega
              rw [List.drop_length, List.foldl_nil] at hnk3
              rw [← hnk3] at hnk
              refine acode_exit ?_
              repeat (first | refine exit_then ?_ | refine exit_here ?_ | refine then_n ?_ | refine block_n ?_)
              repeat (first | refine aops_end ?_ | refine aops_a tok rfl (by omega) (by omega) rfl rfl rfl ?_ | refine aops_p tok rfl rfl rfl rfl ?_ | refine acode_region ?_)
              exact ⟨(k + 1, keys3, c3, kb3, kcap3), ⟨by simp only; omega, hnk, hko3, hkg3, hkc3, by simp only; omega⟩, by simp only; omega, ⟨rfl, rfl, rfl, rfl, rfl, rfl, rfl, rfl, rfl, rfl, rfl, trivial⟩, rfl⟩
          · have hfull : ∀ L : List Wy, L.foldl (newW lim) (keys2, c2) = (keys2, c2) := by
              intro L
              induction L with
              | nil => rfl
              | cons x L ih => rw [List.foldl_cons, show newW lim (keys2, c2) x = (keys2, c2) by unfold newW; rw [if_neg hcl2]]; exact ih
            rw [hfull] at hnk
            subst hnk
            repeat' (first | refine aops_end ?_ | refine aops_pbt tok rfl (by first | omega | decide) rfl rfl rfl ?_ | refine aops_pbf tok rfl (by first | omega | decide) rfl rfl rfl ?_ | refine aops_pet tok rfl (by omega) rfl rfl rfl ?_ | refine aops_p tok rfl rfl rfl rfl ?_ | refine acode_if rfl ?_ | refine acode_seq ?_ | refine acode_region ?_)
            try any_goals (exfalso; omega)
            refine acode_exit ?_
            repeat (first | refine exit_then ?_ | refine exit_here ?_ | refine then_n ?_)
            exact ⟨(kb2, kcap2), ⟨hko2, hkg, hkc2, hc2⟩, ⟨rfl, rfl, rfl, rfl, rfl, rfl, rfl, rfl, rfl, rfl, trivial⟩, rfl⟩
        · rw [List.drop_of_length_le (by omega), List.foldl_nil] at hnk
          subst hnk
          repeat' (first | refine aops_end ?_ | refine aops_o rfl rfl rfl ?_ | refine aops_pbf tok rfl (by first | omega | decide) rfl rfl rfl ?_ | refine aops_p tok rfl rfl rfl rfl ?_ | refine acode_if rfl ?_ | refine acode_seq ?_ | refine acode_region ?_)
          try any_goals (exfalso; omega)
          refine acode_exit ?_
          repeat (first | refine exit_then ?_ | refine exit_here ?_ | refine then_n ?_)
          exact ⟨(kb2, kcap2), ⟨hko2, hkg, hkc2, hc2⟩, ⟨rfl, rfl, rfl, rfl, rfl, rfl, rfl, rfl, rfl, rfl, trivial⟩, rfl⟩
      rintro ⟨kb2, kcap2⟩ ⟨hko2, hkg, hkc2, hc2⟩
      simp only at hko2 hkg hkc2 hc2 ⊢
      by_cases hov : nk.2 > lim
      · rw [if_pos hov] at hfin
        subst hfin
        simp only at hB
        repeat' (first | refine aops_end ?_ | refine aops_pbt tok rfl (by first | omega | decide) rfl rfl rfl ?_ | refine aops_p tok rfl rfl rfl rfl ?_ | refine acode_it rfl ?_ | refine acode_seq ?_ | refine acode_region ?_)
        try any_goals (exfalso; omega)
        refine aops_drop0 (aops_drop0 ?_)
        repeat (first | refine aops_end ?_ | refine aops_p tok rfl rfl rfl rfl ?_ | refine aops_stn tok rfl rfl rfl rfl rfl rfl rfl rfl rfl ?_)
        refine acode_freezeV (V := [⟨some fb, 2, [.nils, .int .i64 0]⟩]) [(6, .pp (foC ⟨[], 0⟩)), (7, .int .i64 0), (8, .int .i64 9)] ⟨.ref (.head _) (.cons .nils (.cons (.refl _) .nil)), .refl _, .refl _, trivial⟩ ?_
        refine acode_ret ?_
        repeat (first | refine ret_then ?_ | refine ret_block ?_)
        exact ⟨_, ⟨.inl ⟨0, 9, by omega, by rw [hB], rfl⟩, rfl⟩, _, rfl, resOf_pp tok rfl rfl rfl⟩
      · rw [if_neg hov] at hfin
        repeat' (first | refine aops_end ?_ | refine aops_pbf tok rfl (by first | omega | decide) rfl rfl rfl ?_ | refine aops_p tok rfl rfl rfl rfl ?_ | refine acode_if rfl ?_ | refine acode_seq ?_ | refine acode_region ?_ | refine acode_skip ?_ | refine then_n ?_)
        try any_goals (exfalso; omega)
        refine aops_litn tok rfl rfl rfl rfl rfl rfl rfl ?_
        refine aops_append tok 0 (m := 1) (ds := allW [mi.1]) rfl rfl rfl (.inl rfl) rfl rfl (by rw [allW_len, Nat.mul_one]) rfl rfl rfl (by show _ * 24 ≤ _; omega) (by omega) rfl rfl fun ab' acap' => ?_
        repeat (first | refine aops_put rfl ?_ | refine aops_end ?_ | refine aops_endb ?_ | refine aops_a tok rfl (by omega) (by omega) rfl rfl rfl ?_ | refine aops_p tok rfl rfl rfl rfl ?_ | refine acode_region ?_ | refine then_n ?_)
        refine ⟨(q', i + 1, nk.1, all ++ [mi.1], nk.2, (kb2, kcap2), (ab', acap')), ⟨hfin, by simp only; omega, by simp only; omega, by simp only [List.length_append, List.length_singleton]; omega, hkc2, by simp only; omega, hko2, by simp only; omega, fun z hz => ?_⟩, by simp only; omega, ⟨rfl, rfl, rfl, rfl, rfl, rfl, by rw [List.length_append]; rfl, rfl, rfl, trivial⟩, by simp [allW]⟩
        rcases List.mem_append.1 hz with h1 | h1
        · exact hall z h1
        · rw [List.mem_singleton.1 h1]; exact ⟨by omega, hmok⟩
    · have hie : i = keys.length := by omega
      rw [List.getElem?_eq_none (by omega)] at hfin
      simp only at hfin
      subst hfin
      simp only at hB
      refine acode_exit ?_
      repeat (first | refine exit_then ?_ | refine exit_here ?_ | refine then_n ?_)
      refine acode_pub0 13 1 rfl rfl (by rw [allW_len, Nat.mul_one]) rfl ?_
      refine acode_pub0 12 3 rfl rfl (encs_len (e := f3C) (s := 3) (fun _ => rfl) keys) rfl ?_
      repeat (first | refine aops_end ?_ | refine aops_p tok rfl rfl rfl rfl ?_ | refine acode_seq ?_ | refine acode_region ?_ | refine acode_block ?_)
      refine acode_freezeV (V := []) [(6, .ref fb 0), (11, .int .i64 ks.length), (12, .psl keys.length (encs f3C keys)), (13, .psl all.length (allW all)), (22, .psl 0 []), (23, .int .i64 0)] ⟨.refl _, .refl _, .refl _, .refl _, .nils, .refl _, trivial⟩ ?_
      have hkl : keys.length ≤ lim + 1 := by omega
      have hfo := bldF_ok (N := N) (n := ks.length) (lim := lim) hn hlim hkl hall
      have hbf : bldF keys all = ⟨(sortK aheadF keys).map (nodeN keys all (sortK aheadF keys)), findF (keys.getD 0 (0, 0, 0)) (sortK aheadF keys) 0⟩ := rfl
      have hom : ∀ z, z ∈ sortK aheadF keys → z ∈ keys := fun z hz => sortK_mem.1 hz
      have hord : keys.foldl (fun out x => insK aheadF x out) [] = sortK aheadF keys := rfl
      generalize sortK aheadF keys = order at *
      refine acode_loopS (ι := Nat × List Ky) (fun p => [(6, .ref fb 0), (11, .int .i64 ks.length), (12, .psl keys.length (encs f3C keys)), (13, .psl all.length (allW all)), (22, .psl p.2.length (encs f3C p.2)), (23, .int .i64 p.1)]) (fun _ => ⟨some fb, 2, [.nils, .int .i64 0]⟩ :: M) (fun p => keys.length - p.1) (fun p => p.1 ≤ keys.length ∧ p.2.length = p.1 ∧ (keys.drop p.1).foldl (fun out x => insK aheadF x out) p.2 = order) (0, []) ⟨Nat.zero_le _, rfl, hord⟩ ⟨rfl, rfl, rfl, rfl, rfl, rfl, trivial⟩ rfl ?_
      clear hord
      rintro ⟨i2, out⟩ ⟨hi2, hol, hfold⟩
      simp only at hi2 hol hfold ⊢
      repeat (first | refine aops_end ?_ | refine aops_p tok rfl rfl rfl rfl ?_ | refine acode_seq ?_ | refine acode_region ?_)
      refine acode_id rfl (fun e2 => ?_) (fun e2 => ?_)
      · have hil : i2 < keys.length := by omega
        obtain ⟨x, hx⟩ : ∃ x, keys[i2]? = some x := ⟨keys[i2], List.getElem?_eq_getElem hil⟩
        have hdx : keys.drop i2 = x :: keys.drop (i2 + 1) := by
          rw [List.drop_eq_getElem_cons hil]
          rw [List.getElem?_eq_getElem hil] at hx
          rw [Option.some.inj hx]
        rw [hdx, List.foldl_cons] at hfold
        have hil2 := insK_len aheadF x out
        repeat (first | refine acode_seq ?_ | refine acode_region ?_ | refine acode_block ?_ | refine acode_skip ?_ | refine then_n ?_ | refine block_n ?_)
        repeat (refine aops_p tok rfl rfl rfl rfl ?_)
        refine aops_end ?_
        refine acode_seq ?_
        refine acode_joinI (ι := Nat) (fun k => [(6, .ref fb 0), (11, .int .i64 ks.length), (12, .psl keys.length (encs f3C keys)), (13, .psl all.length (allW all)), (22, .psl out.length (encs f3C out)), (23, .int .i64 i2), (24, .int .i64 k)]) (fun _ => ⟨some fb, 2, [.nils, .int .i64 0]⟩ :: M) (fun k => k ≤ out.length ∧ insK aheadF x out = out.take k ++ x :: out.drop k) ?_ ?_
        · repeat (refine acode_block ?_)
          refine acode_loopS (ι := Nat) (fun k => [(6, .ref fb 0), (11, .int .i64 ks.length), (12, .psl keys.length (encs f3C keys)), (13, .psl all.length (allW all)), (22, .psl out.length (encs f3C out)), (23, .int .i64 i2), (24, .int .i64 k)]) (fun _ => ⟨some fb, 2, [.nils, .int .i64 0]⟩ :: M) (fun k => out.length - k) (fun k => k ≤ out.length ∧ insK aheadF x out = out.take k ++ insK aheadF x (out.drop k)) 0 ⟨Nat.zero_le _, by simp⟩ ⟨rfl, rfl, rfl, rfl, rfl, rfl, rfl, trivial⟩ rfl ?_
          rintro k ⟨hk1, hk2⟩
          by_cases hkl3 : k < out.length
          · obtain ⟨y, hy⟩ : ∃ y, out[k]? = some y := ⟨out[k], List.getElem?_eq_getElem hkl3⟩
            have hdy : out.drop k = y :: out.drop (k + 1) := by
              rw [List.drop_eq_getElem_cons hkl3]
              rw [List.getElem?_eq_getElem hkl3] at hy
              rw [Option.some.inj hy]
            rw [hdy, insK] at hk2
            repeat (refine acode_seq ?_)
            refine acode_drawT 15 mixed (by kernel_rfl) (by kernel_rfl) ?_
            repeat' (first | refine seqT_o rfl rfl rfl ?_ | (refine seqT_pd tok rfl rfl rfl rfl ?_ ?_ <;> intro e_) | refine seqT_p tok rfl rfl rfl rfl ?_)
            try any_goals (exfalso; omega)
            refine seqT_ix tok (f3C y) rfl rfl rfl rfl (by omega) (by omega) (by simp [f3C]) (encs_at (e := f3C) (s := 3) (fun _ => rfl) (i := (k : Int).toNat) (by simpa using hy)) rfl rfl rfl ?_
            repeat (refine seqT_p tok rfl rfl rfl rfl ?_)
            refine seqT_ix tok (f3C x) rfl rfl rfl rfl (by omega) (by omega) (by simp [f3C]) (encs_at (e := f3C) (s := 3) (fun _ => rfl) (i := (i2 : Int).toNat) (by simpa using hx)) rfl rfl rfl ?_
            repeat (refine seqT_p tok rfl rfl rfl rfl ?_)
            refine seqT_call _ Try.func50 rfl rfl rfl rfl (ahead_calls (a := y) (b := x) _) rfl rfl rfl ?_
            repeat (refine seqT_p tok rfl rfl rfl rfl ?_)
            refine SeqT.done ?_
            cases hlo : aheadF y x with
            | true =>
              rw [hlo, if_pos rfl] at hk2
              repeat' (first | refine aops_end ?_ | refine aops_endb ?_ | refine aops_a tok rfl (by omega) (by omega) rfl rfl rfl ?_ | refine aops_p tok rfl rfl rfl rfl ?_ | refine acode_it rfl ?_ | refine acode_region ?_ | refine acode_block ?_ | refine acode_skip ?_ | refine then_n ?_)
              exact ⟨k + 1, ⟨by omega, by rw [hk2, List.take_add_one, hy]; simp⟩, by omega, ⟨rfl, rfl, rfl, rfl, rfl, rfl, rfl, trivial⟩, rfl⟩
            | false =>
              rw [hlo, if_neg (by simp)] at hk2
              repeat' (first | refine aops_end ?_ | refine acode_if rfl ?_)
              refine acode_exit ?_
              repeat (first | refine exit_then ?_ | refine exit_here ?_ | refine then_n ?_)
              exact ⟨k, ⟨hk1, by rw [hk2, hdy]⟩, ⟨rfl, rfl, rfl, rfl, rfl, rfl, rfl, trivial⟩, rfl⟩
          · rw [List.drop_of_length_le (show out.length ≤ k by omega), insK] at hk2
            repeat (refine acode_seq ?_)
            refine acode_drawT 15 mixed (by kernel_rfl) (by kernel_rfl) ?_
            repeat' (first | refine seqT_o rfl rfl rfl ?_ | (refine seqT_pd tok rfl rfl rfl rfl ?_ ?_ <;> intro e_) | refine seqT_p tok rfl rfl rfl rfl ?_)
            try any_goals (exfalso; omega)
            refine SeqT.done ?_
            repeat' (first | refine aops_end ?_ | refine acode_if rfl ?_)
            refine acode_exit ?_
            repeat (first | refine exit_then ?_ | refine exit_here ?_ | refine then_n ?_)
            exact ⟨k, ⟨hk1, by rw [hk2, List.drop_of_length_le (by omega)]⟩, ⟨rfl, rfl, rfl, rfl, rfl, rfl, rfl, trivial⟩, rfl⟩
        rintro k ⟨hk1, hk2⟩
        rw [hk2] at hfold hil2
        skip
        refine acode_drawP [] 14 [0, 1, 2, 4, 5, 6, 7, 8, 10, 11, 12, 3, 9, 13] [11, 12, 13] mixed (by kernel_rfl) (by kernel_rfl) rfl ?_
        repeat (refine seqO_p tok rfl rfl rfl rfl rfl ?_)
        refine seqO_slc tok (out.take k).length (encs f3C (out.take k)) rfl rfl rfl rfl rfl rfl (by omega) (by omega) (by omega) (by rw [List.length_take, Nat.min_eq_left hk1]; omega) (encs_len (e := f3C) (s := 3) (fun _ => rfl) out) (encs_cut (e := f3C) (s := 3) (fun _ => rfl) out k) rfl rfl rfl ?_
        repeat (refine seqO_p tok rfl rfl rfl rfl rfl ?_)
        refine seqO_ix tok (f3C x) rfl rfl rfl rfl rfl (by omega) (by omega) (by simp [f3C]) (encs_at (e := f3C) (s := 3) (fun _ => rfl) (i := (i2 : Int).toNat) (by simpa using hx)) rfl rfl rfl ?_
        repeat (refine seqO_p tok rfl rfl rfl rfl rfl ?_)
        refine seqO_lit tok rfl rfl rfl rfl rfl rfl rfl rfl rfl ?_
        repeat (refine seqO_p tok rfl rfl rfl rfl rfl ?_)
        refine seqO_slc tok (out.drop k).length (encs f3C (out.drop k)) rfl rfl rfl rfl rfl rfl (by omega) (by omega) (by omega) (by rw [List.length_drop]; omega) (encs_len (e := f3C) (s := 3) (fun _ => rfl) out) (encs_rest (e := f3C) (s := 3) (fun _ => rfl) out k (by omega)) rfl rfl rfl ?_
        refine seqO_appn tok rfl rfl rfl rfl rfl (encs_len (e := f3C) (s := 3) (fun _ => rfl) _) (encs_cell (fun _ => rfl) _) rfl (by show _ * 24 ≤ _; rw [List.length_take]; omega) (by rw [List.length_take]; omega) (by simp) rfl rfl rfl fun ob' cap' => ?_
        refine seqO_app tok 0 (m := 1) (ds := f3C x) rfl rfl rfl rfl (.inl rfl) rfl rfl (encs_len (e := f3C) (s := 3) (fun _ => rfl) _) rfl rfl rfl (by show _ * 24 ≤ _; rw [List.length_take]; omega) (by rw [List.length_take]; omega) (by simp) rfl rfl rfl fun ob2 cap2 => ?_
        refine seqO_appz tok 0 (m := (out.drop k).length) (ds := encs f3C (out.drop k)) rfl rfl rfl rfl rfl rfl rfl (by rw [List.length_append, encs_len (e := f3C) (s := 3) (fun _ => rfl)]; show _ = _ * 3; rw [Nat.add_mul]; rfl) (encs_len (e := f3C) (s := 3) (fun _ => rfl) _) (encs_cell (fun _ => rfl) _) rfl (by show _ * 24 ≤ _; rw [List.length_take, List.length_drop]; omega) (by rw [List.length_take, List.length_drop]; omega) (by simp) rfl rfl rfl ?_
        refine SeqO.done ?_
        repeat (first | refine aops_end ?_ | refine aops_endb ?_ | refine aops_a tok rfl (by omega) (by omega) rfl rfl rfl ?_ | refine aops_p tok rfl rfl rfl rfl ?_ | refine acode_region ?_ | refine then_n ?_)
        refine ⟨(i2 + 1, out.take k ++ x :: out.drop k), ⟨by simp only; omega, by simp only [hil2]; omega, hfold⟩, by simp only; omega, ⟨rfl, rfl, rfl, rfl, ?_, rfl, trivial⟩, rfl⟩
        show A.psl _ _ = A.psl _ _
        rw [encs_app]
        congr 1
        · simp; omega
        · simp [encs]
      · obtain rfl : i2 = keys.length := by omega
        rw [List.drop_length, List.foldl_nil] at hfold
        subst hfold
        refine acode_exit ?_
        repeat (first | refine exit_then ?_ | refine exit_here ?_ | refine then_n ?_)
        obtain ⟨k0, hk0⟩ : ∃ k0, keys[0]? = some k0 := ⟨keys[0], List.getElem?_eq_getElem hk1⟩
        have hk00 : keys.getD 0 (0, 0, 0) = k0 := by rw [List.getD_eq_getElem?_getD, hk0]; rfl
        rw [hk00] at hbf
        repeat (first | refine aops_p tok rfl rfl rfl rfl ?_ | refine acode_seq ?_ | refine acode_region ?_)
        refine aops_ix tok (f3C k0) rfl rfl rfl rfl (by omega) (by omega) (by simp [f3C]) (encs_at (e := f3C) (s := 3) (fun _ => rfl) (i := (0 : Int).toNat) (by simpa using hk0)) rfl rfl rfl ?_
        repeat (refine aops_p tok rfl rfl rfl rfl ?_)
        refine aops_callx Try.func49 rfl rfl rfl rfl (find_calls (by omega) _) rfl rfl rfl ?_
        generalize findF k0 out 0 = root at *
        repeat (refine aops_p tok rfl rfl rfl rfl ?_)
        refine aops_alloc tok rfl rfl rfl rfl rfl rfl fun gb => ?_
        repeat (refine aops_stn tok rfl rfl rfl rfl rfl rfl rfl rfl rfl ?_)
        refine aops_adoptF 0 rfl rfl ?_
        repeat (first | refine aops_end ?_ | refine aops_p tok rfl rfl rfl rfl ?_ | refine acode_seq ?_ | refine acode_region ?_ | refine acode_block ?_)
        generalize hnds : out.map (nodeN keys all out) = nds at hbf
        have hndl : nds.length = out.length := by rw [← hnds, List.length_map]
        refine acode_loopS (ι := Nat × Option Nat × Nat) (fun p => [(6, .ref fb 0), (11, .int .i64 ks.length), (12, .psl keys.length (encs f3C keys)), (13, .psl all.length (allW all)), (22, .psl out.length (encs f3C out)), (25, .ref gb 0), (26, .int .i64 p.1)]) (fun p => ⟨some gb, 2, [.own p.2.1 p.1 p.2.2, .int .i64 root]⟩ :: ⟨p.2.1, p.2.2 * 4, encs ndC (nds.take p.1)⟩ :: ⟨some fb, 2, [.nils, .int .i64 0]⟩ :: M) (fun p => out.length - p.1) (fun p => p.1 ≤ out.length) (0, none, 0) (Nat.zero_le _) ⟨rfl, rfl, rfl, rfl, rfl, rfl, rfl, trivial⟩ rfl ?_
        rintro ⟨i, nob, ncap⟩ hi
        simp only at hi ⊢
        repeat (first | refine aops_end ?_ | refine aops_p tok rfl rfl rfl rfl ?_ | refine acode_seq ?_ | refine acode_region ?_)
        refine acode_id rfl (fun e3 => ?_) (fun e3 => ?_)
        · have hil : i < out.length := by omega
          obtain ⟨k, hk⟩ : ∃ k, out[i]? = some k := ⟨out[i], List.getElem?_eq_getElem hil⟩
          have hka := encs_at (e := f3C) (s := 3) (fun _ => rfl) (i := (i : Int).toNat) (by simpa using hk)
          have hkm := hom k (List.mem_of_getElem? hk)
          obtain ⟨hf1, hf2, hf3⟩ := findF_at hkm
          obtain ⟨m, hm⟩ : ∃ m, all[(findF k keys 0).toNat]? = some m := ⟨all[(findF k keys 0).toNat]'(by omega), List.getElem?_eq_getElem (by omega)⟩
          obtain ⟨hm1, hm2⟩ := hall m (List.mem_of_getElem? hm)
          have hnd : nodeN keys all out k = ⟨k.1, k.2.1, k.2.2, sortK lowF (m.map (altN out))⟩ := by
            unfold nodeN; rw [List.getD_eq_getElem?_getD, hm]; rfl
          have hndi : nds[i]? = some ⟨k.1, k.2.1, k.2.2, sortK lowF (m.map (altN out))⟩ := by rw [← hnds, List.getElem?_map, hk, ← hnd]; rfl
          have htk : nds.take (i + 1) = nds.take i ++ [⟨k.1, k.2.1, k.2.2, sortK lowF (m.map (altN out))⟩] := by rw [List.take_add_one, hndi]; rfl
          have hma : [A.psl m.length (encs wyCC m)] <+: (allW all).drop ((findF k keys 0).toNat * 1) := by
            rw [Nat.mul_one]
            have : (allW all)[(findF k keys 0).toNat]? = some (A.psl m.length (encs wyCC m)) := by unfold allW; rw [List.getElem?_map, hm]; rfl
            rw [List.drop_eq_getElem_cons (List.getElem?_eq_some_iff.1 this).1, (List.getElem?_eq_some_iff.1 this).2]; exact ⟨_, rfl⟩
          repeat (first | refine acode_seq ?_ | refine acode_region ?_ | refine acode_block ?_ | refine acode_skip ?_ | refine then_n ?_ | refine block_n ?_)
          refine acode_drawP [] 17 [0, 1, 2, 3, 4, 5, 6, 7, 8, 9, 10, 11, 12, 13, 14, 15, 16] [16] mixed (by kernel_rfl) (by kernel_rfl) rfl ?_
          repeat (refine seqO_p tok rfl rfl rfl rfl rfl ?_)
          refine seqO_ix tok (f3C k) rfl rfl rfl rfl rfl (by omega) (by omega) (by simp [f3C]) hka rfl rfl rfl ?_
          repeat (refine seqO_p tok rfl rfl rfl rfl rfl ?_)
          refine seqO_ix tok (f3C k) rfl rfl rfl rfl rfl (by omega) (by omega) (by simp [f3C]) hka rfl rfl rfl ?_
          repeat (refine seqO_p tok rfl rfl rfl rfl rfl ?_)
          refine seqO_ix tok (f3C k) rfl rfl rfl rfl rfl (by omega) (by omega) (by simp [f3C]) hka rfl rfl rfl ?_
          repeat (refine seqO_p tok rfl rfl rfl rfl rfl ?_)
          refine seqO_alloc tok rfl rfl rfl (by simp) rfl rfl rfl rfl fun nb => ?_
          refine SeqO.done ?_
          repeat (refine aops_stn tok rfl rfl rfl rfl rfl rfl rfl rfl rfl ?_)
          refine aops_adoptF 3 rfl rfl ?_
          repeat (first | refine aops_end ?_ | refine aops_p tok rfl rfl rfl rfl ?_ | refine acode_seq ?_ | refine acode_region ?_)
          refine aops_ix tok (f3C k) rfl rfl rfl rfl (by omega) (by omega) (by simp [f3C]) hka rfl rfl rfl ?_
          repeat (refine aops_p tok rfl rfl rfl rfl ?_)
          refine aops_callx Try.func49 rfl rfl rfl rfl (find_calls (by omega) _) rfl rfl rfl ?_
          skip
          refine aops_ix tok [A.psl m.length (encs wyCC m)] rfl rfl rfl rfl hf2 (by omega) (by simp) hma rfl rfl rfl ?_
          repeat (first | refine aops_end ?_ | refine aops_p tok rfl rfl rfl rfl ?_ | refine acode_seq ?_ | refine acode_region ?_ | refine acode_block ?_)
          generalize hals : m.map (altN out) = als at *
          have halsl : als.length = m.length := by rw [← hals, List.length_map]
          have hsc := fun M => sorted_calls (l := als) (by omega) (fun a ha => by
            rw [← hals] at ha
            obtain ⟨w, hw, rfl⟩ := List.mem_map.1 ha
            have := (hm2 w hw).1
            show (w.2.map (kidN out)).length ≤ _
            rw [List.length_map]; omega) M
          rw [halsl] at hsc
          refine acode_loopS (ι := Nat × Option Nat × Nat) (fun p => [(6, .ref fb 0), (11, .int .i64 ks.length), (12, .psl keys.length (encs f3C keys)), (13, .psl all.length (allW all)), (22, .psl out.length (encs f3C out)), (25, .ref gb 0), (26, .int .i64 i), (27, .ref nb 0), (28, .psl m.length (encs wyCC m)), (29, .int .i64 p.1)]) (fun p => ⟨some nb, 4, [.int .i64 k.1, .int .i64 k.2.1, .int .i64 k.2.2, .own p.2.1 p.1 p.2.2]⟩ :: ⟨p.2.1, p.2.2 * 2, encs alC (als.take p.1)⟩ :: ⟨some gb, 2, [.own nob i ncap, .int .i64 root]⟩ :: ⟨nob, ncap * 4, encs ndC (nds.take i)⟩ :: ⟨some fb, 2, [.nils, .int .i64 0]⟩ :: M) (fun p => m.length - p.1) (fun p => p.1 ≤ m.length) (0, none, 0) (Nat.zero_le _) ⟨rfl, rfl, rfl, rfl, rfl, rfl, rfl, rfl, rfl, rfl, trivial⟩ rfl ?_
          rintro ⟨k2, aob, acap2⟩ hk2
          simp only at hk2 ⊢
          repeat (first | refine aops_end ?_ | refine aops_p tok rfl rfl rfl rfl ?_ | refine acode_seq ?_ | refine acode_region ?_)
          refine acode_id rfl (fun e4 => ?_) (fun e4 => ?_)
          · have hkl2 : k2 < m.length := by omega
            obtain ⟨w, hw⟩ : ∃ w, m[k2]? = some w := ⟨m[k2], List.getElem?_eq_getElem hkl2⟩
            obtain ⟨hw8, hwg⟩ := hm2 w (List.mem_of_getElem? hw)
            have hww := encs_at (e := wyCC) (s := 2) (fun _ => rfl) (i := (k2 : Int).toNat) (by simpa using hw)
            have hali : als[k2]? = some (altN out w) := by rw [← hals, List.getElem?_map, hw]; rfl
            have htk2 : als.take (k2 + 1) = als.take k2 ++ [altN out w] := by rw [List.take_add_one, hali]; rfl
            have halw : alC (altN out w) = [.int .i64 w.1, .psl (w.2.map (kidN out)).length (ints (w.2.map (kidN out)))] := rfl
            repeat (first | refine aops_p tok rfl rfl rfl rfl ?_ | refine acode_seq ?_ | refine acode_region ?_ | refine acode_block ?_ | refine acode_skip ?_ | refine then_n ?_)
            refine aops_ix tok (wyCC w) rfl rfl rfl rfl (by omega) (by omega) (by simp [wyCC, wyC]) hww rfl rfl rfl ?_
            repeat (refine aops_p tok rfl rfl rfl rfl ?_)
            refine aops_alloc tok rfl rfl rfl rfl rfl rfl fun lb => ?_
            repeat (refine aops_stn tok rfl rfl rfl rfl rfl rfl rfl rfl rfl ?_)
            refine aops_adoptF 1 rfl rfl ?_
            repeat (first | refine aops_end ?_ | refine aops_p tok rfl rfl rfl rfl ?_ | refine acode_seq ?_ | refine acode_region ?_ | refine acode_block ?_)
            generalize hkds : w.2.map (kidN out) = kds at halw
            have hkdl : kds.length = w.2.length := by rw [← hkds, List.length_map]
            rw [hkdl] at halw
            refine acode_loopS (ι := Nat × Option Nat × Nat) (fun p => [(6, .ref fb 0), (11, .int .i64 ks.length), (12, .psl keys.length (encs f3C keys)), (13, .psl all.length (allW all)), (22, .psl out.length (encs f3C out)), (25, .ref gb 0), (26, .int .i64 i), (27, .ref nb 0), (28, .psl m.length (encs wyCC m)), (29, .int .i64 k2), (30, .ref lb 0), (31, .int .i64 p.1)]) (fun p => ⟨some lb, 2, [.int .i64 w.1, .own p.2.1 p.1 p.2.2]⟩ :: ⟨p.2.1, p.2.2 * 1, ints (kds.take p.1)⟩ :: ⟨some nb, 4, [.int .i64 k.1, .int .i64 k.2.1, .int .i64 k.2.2, .own aob k2 acap2]⟩ :: ⟨aob, acap2 * 2, encs alC (als.take k2)⟩ :: ⟨some gb, 2, [.own nob i ncap, .int .i64 root]⟩ :: ⟨nob, ncap * 4, encs ndC (nds.take i)⟩ :: ⟨some fb, 2, [.nils, .int .i64 0]⟩ :: M) (fun p => w.2.length - p.1) (fun p => p.1 ≤ w.2.length) (0, none, 0) (Nat.zero_le _) ⟨rfl, rfl, rfl, rfl, rfl, rfl, rfl, rfl, rfl, rfl, rfl, rfl, trivial⟩ rfl ?_
            rintro ⟨j, kob, kcap2⟩ hj
            simp only at hj ⊢
            repeat (first | refine aops_p tok rfl rfl rfl rfl ?_ | refine acode_seq ?_ | refine acode_region ?_)
            refine aops_ix tok (wyCC w) rfl rfl rfl rfl (by omega) (by omega) (by simp [wyCC, wyC]) hww rfl rfl rfl ?_
            repeat (first | refine aops_end ?_ | refine aops_p tok rfl rfl rfl rfl ?_)
            refine acode_id rfl (fun e5 => ?_) (fun e5 => ?_)
            · have hjl : j < w.2.length := by omega
              obtain ⟨y, hy⟩ : ∃ y, w.2[j]? = some y := ⟨w.2[j], List.getElem?_eq_getElem hjl⟩
              have hyg := hwg y (List.mem_of_getElem? hy)
              have hkdi : kds[j]? = some (kidN out y) := by rw [← hkds, List.getElem?_map, hy]; rfl
              have htk3 : kds.take (j + 1) = kds.take j ++ [kidN out y] := by rw [List.take_add_one, hkdi]; rfl
              repeat (first | refine aops_p tok rfl rfl rfl rfl ?_ | refine acode_seq ?_ | refine acode_region ?_ | refine acode_block ?_ | refine acode_skip ?_ | refine then_n ?_)
              refine aops_ix tok (wyCC w) rfl rfl rfl rfl (by omega) (by omega) (by simp [wyCC, wyC]) hww rfl rfl rfl ?_
              repeat (refine aops_p tok rfl rfl rfl rfl ?_)
              refine aops_ix tok (f3C y) rfl rfl rfl rfl (by omega) (by omega) (by simp [f3C]) (encs_at (e := f3C) (s := 3) (fun _ => rfl) (i := (j : Int).toNat) (by simpa using hy)) rfl rfl rfl ?_
              repeat (refine aops_p tok rfl rfl rfl rfl ?_)
              refine aops_alloc tok rfl rfl rfl rfl rfl rfl fun xb => ?_
              repeat (refine aops_stn tok rfl rfl rfl rfl rfl rfl rfl rfl rfl ?_)
              refine aops_pubref0 32 rfl ?_
              by_cases hy0 : y.1 < 0
              · have hkid : kidN out y = -1 - y.2.1 := by unfold kidN; rw [if_pos hy0]
                have hyg1 := hyg.1
                repeat' (first | refine aops_end ?_ | refine aops_a tok rfl (by omega) (by omega) rfl rfl rfl ?_ | refine aops_pbt tok rfl (by first | omega | decide) rfl rfl rfl ?_ | refine aops_p tok rfl rfl rfl rfl ?_ | refine acode_it rfl ?_ | refine aops_ld tok 0 rfl rfl rfl rfl rfl rfl rfl rfl ?_ | refine acode_seq ?_ | refine acode_region ?_)
                try any_goals (exfalso; omega)
                refine aops_litn tok rfl rfl rfl rfl rfl rfl rfl ?_
                refine aops_append tok 1 (m := 1) (ds := ints [-1 - y.2.1]) rfl rfl rfl (.inl rfl) rfl rfl (by rw [ints_len, List.length_take, hkdl, Nat.min_eq_left (by omega)]; exact (Nat.mul_one _).symm) rfl rfl rfl (by show _ * 8 ≤ _; omega) (by omega) rfl rfl fun ob' cap' => ?_
                refine aops_put rfl ?_
                refine aops_somed 284 rfl (by omega) fun c hc => ?_
                subst hc
                repeat (first | refine aops_end ?_ | refine aops_endb ?_ | refine aops_a tok rfl (by omega) (by omega) rfl rfl rfl ?_ | refine aops_p tok rfl rfl rfl rfl ?_ | refine aops_stn tok rfl rfl rfl rfl rfl rfl rfl rfl rfl ?_ | refine acode_region ?_ | refine then_n ?_)
                refine ⟨(j + 1, some c, cap'), by simp only; omega, by simp only; omega, ⟨rfl, rfl, rfl, rfl, rfl, rfl, rfl, rfl, rfl, rfl, rfl, rfl, trivial⟩, ?_⟩
                simp only [htk3, hkid, ints_app]
                rfl
              · have hkid : kidN out y = findF y out 0 := by unfold kidN; rw [if_neg hy0]
                repeat' (first | refine aops_end ?_ | refine aops_pbf tok rfl (by first | omega | decide) rfl rfl rfl ?_ | refine aops_p tok rfl rfl rfl rfl ?_ | refine acode_if rfl ?_ | refine acode_seq ?_ | refine acode_region ?_)
                try any_goals (exfalso; omega)
                refine acode_drawP [⟨some lb, 2, [.int .i64 w.1, .own kob j kcap2]⟩] 8 [0, 1, 2, 3, 4, 5, 6, 7] [6] mixed (by kernel_rfl) (by kernel_rfl) rfl ?_
                repeat (first | refine seqO_p tok rfl rfl rfl rfl rfl ?_ | refine seqO_ld tok 0 rfl rfl rfl rfl rfl (by simp) rfl rfl rfl rfl ?_)
                refine seqO_call _ rfl Try.func49 rfl rfl rfl rfl (fun M => find_calls (by omega) M) rfl rfl rfl ?_
                refine seqO_lit tok rfl rfl rfl rfl rfl rfl rfl rfl rfl ?_
                refine seqO_app tok 1 (m := 1) (ds := ints [findF y out 0]) rfl rfl rfl rfl (.inl rfl) rfl rfl (by rw [ints_len, List.length_take, hkdl, Nat.min_eq_left (by omega)]; exact (Nat.mul_one _).symm) rfl rfl rfl (by show _ * 8 ≤ _; omega) (by omega) (by intro y o ho; simp at ho ⊢; simp [ho]) rfl rfl rfl fun ob' cap' => ?_
                repeat (refine seqO_p tok rfl rfl rfl rfl rfl ?_)
                refine SeqO.done ?_
                refine aops_somed 292 rfl (by omega) fun c hc => ?_
                subst hc
                refine aops_stk tok 0 [.int .i64 w.1, .own (some c) (j + 1) cap'] _ rfl rfl rfl rfl rfl rfl (show 1 + 1 ≤ 2 from by decide) rfl rfl rfl rfl ?_
                repeat (first | refine aops_end ?_ | refine aops_endb ?_ | refine aops_a tok rfl (by omega) (by omega) rfl rfl rfl ?_ | refine aops_p tok rfl rfl rfl rfl ?_ | refine acode_region ?_ | refine then_n ?_)
                refine ⟨(j + 1, some c, cap'), by simp only; omega, by simp only; omega, ⟨rfl, rfl, rfl, rfl, rfl, rfl, rfl, rfl, rfl, rfl, rfl, rfl, trivial⟩, ?_⟩
                simp only [htk3, hkid, ints_app]
                rfl
            · obtain rfl : j = w.2.length := by omega
              rw [List.take_of_length_le (show kds.length ≤ w.2.length by omega)]
              refine acode_exit ?_
              repeat (first | refine exit_then ?_ | refine exit_here ?_ | refine then_n ?_)
              refine acode_pubFld (sz := 1) 1 rfl rfl (by rw [ints_len, hkdl, Nat.mul_one]) (by decide) rfl ?_
              refine acode_pubref0 30 rfl ?_
              repeat (first | refine aops_p tok rfl rfl rfl rfl ?_ | refine aops_ld tok 0 rfl rfl rfl rfl rfl rfl rfl rfl ?_ | refine acode_region ?_)
              refine aops_litn tok rfl rfl rfl rfl rfl rfl rfl ?_
              refine aops_append tok 1 (m := 1) (ds := [.int .i64 w.1, .psl w.2.length (ints kds)]) rfl rfl rfl (.inl rfl) rfl rfl (by rw [encs_len alK_len, List.length_take, halsl, Nat.min_eq_left (by omega)]) rfl rfl rfl (by show _ * 32 ≤ _; omega) (by omega) rfl rfl fun ob' cap' => ?_
              refine aops_put rfl ?_
              refine aops_somed 298 rfl (by omega) fun c hc => ?_
              subst hc
              repeat (first | refine aops_end ?_ | refine aops_endb ?_ | refine aops_a tok rfl (by omega) (by omega) rfl rfl rfl ?_ | refine aops_p tok rfl rfl rfl rfl ?_ | refine aops_stn tok rfl rfl rfl rfl rfl rfl rfl rfl rfl ?_ | refine acode_region ?_ | refine then_n ?_)
              refine ⟨(k2 + 1, some c, cap'), by simp only; omega, by simp only; omega, ⟨rfl, rfl, rfl, rfl, rfl, rfl, rfl, rfl, rfl, rfl, trivial⟩, ?_⟩
              simp only [htk2, encs_app]
              rw [show encs alC [altN out w] = alC (altN out w) by simp [encs], halw]
              rfl
          · obtain rfl : k2 = m.length := by omega
            rw [List.take_of_length_le (show als.length ≤ m.length by omega)]
            refine acode_exit ?_
            repeat (first | refine exit_then ?_ | refine exit_here ?_ | refine then_n ?_)
            refine acode_pubFld (sz := 2) 3 rfl rfl (by rw [encs_len alK_len, halsl]) (by decide) rfl ?_
            repeat (first | refine aops_p tok rfl rfl rfl rfl ?_ | refine aops_ld tok 0 rfl rfl rfl rfl rfl rfl rfl rfl ?_ | refine acode_seq ?_ | refine acode_region ?_)
            refine aops_callx Try.func51 rfl rfl rfl rfl (hsc _) rfl rfl rfl ?_
            generalize sortK lowF als = sal at *
            repeat (first | refine aops_p tok rfl rfl rfl rfl ?_ | refine aops_stn tok rfl rfl rfl rfl rfl rfl rfl rfl rfl ?_)
            try (refine aops_stk tok 0 [.int .i64 k.1, .int .i64 k.2.1, .int .i64 k.2.2, .psl sal.length (encs alC sal)] _ rfl rfl rfl rfl rfl rfl (show 3 + 1 ≤ 4 from by decide) rfl rfl rfl rfl ?_)
            refine aops_end ?_
            refine acode_pubref0 27 rfl ?_
            repeat (first | refine aops_p tok rfl rfl rfl rfl ?_ | refine aops_ld tok 0 rfl rfl rfl rfl rfl rfl rfl rfl ?_ | refine acode_region ?_)
            refine aops_litn tok rfl rfl rfl rfl rfl rfl rfl ?_
            refine aops_append tok 1 (m := 1) (ds := ndC ⟨k.1, k.2.1, k.2.2, sal⟩) rfl rfl rfl (.inl rfl) rfl rfl (by rw [encs_len ndK_len, List.length_take, hndl, Nat.min_eq_left (by omega)]) rfl rfl rfl (by show _ * 48 ≤ _; omega) (by omega) rfl rfl fun ob' cap' => ?_
            refine aops_put rfl ?_
            refine aops_somed 308 rfl (by omega) fun c hc => ?_
            subst hc
            repeat (first | refine aops_end ?_ | refine aops_endb ?_ | refine aops_a tok rfl (by omega) (by omega) rfl rfl rfl ?_ | refine aops_p tok rfl rfl rfl rfl ?_ | refine aops_stn tok rfl rfl rfl rfl rfl rfl rfl rfl rfl ?_ | refine acode_region ?_ | refine then_n ?_)
            refine ⟨(i + 1, some c, cap'), by simp only; omega, by simp only; omega, ⟨rfl, rfl, rfl, rfl, rfl, rfl, rfl, trivial⟩, ?_⟩
            simp only [htk, encs_app]
            rw [show encs ndC [⟨k.1, k.2.1, k.2.2, sal⟩] = ndC ⟨k.1, k.2.1, k.2.2, sal⟩ by simp [encs]]
            rfl
        · obtain rfl : i = out.length := by omega
          have htk : nds.take out.length = nds := List.take_of_length_le (by omega)
          rw [htk]
          refine acode_exit ?_
          repeat (first | refine exit_then ?_ | refine exit_here ?_ | refine then_n ?_)
          refine acode_pubFld (sz := 4) 0 rfl rfl (by rw [encs_len ndK_len, hndl]) (by decide) rfl ?_
          refine acode_pubref0 25 rfl ?_
          repeat (first | refine aops_end ?_ | refine aops_p tok rfl rfl rfl rfl ?_ | refine aops_stn tok rfl rfl rfl rfl rfl rfl rfl rfl rfl ?_ | refine acode_seq ?_ | refine acode_region ?_)
          refine acode_pubref0 6 rfl ?_
          refine acode_ret ?_
          skip
          exact ⟨_, ⟨.inr ⟨bldF keys all, by rw [hB], hfo.1, hfo.2, rfl⟩, rfl⟩, _, rfl, resOf_pp tok rfl rfl (by rw [hbf, ← hndl]; rfl)⟩
end Go.Proofs.Ytnlmfhnjjblhoaa.Ab
/- Chapter 18's reference chart in plain terms: what its rows mean, that each entry has a rule, and which names lead to nothing. No condition. -/
set_option linter.unusedVariables false
set_option linter.unusedSimpArgs false
namespace Go.Proofs.Ytnlmfhnjjblhoaa.Ab

theorem nullI_fix (g : Gr) : ∀ (q : Nat) (o : List Bool), nullI g q o = fixI (nullR g) q o
  | 0, o => rfl
  | q + 1, o => by rw [nullI, fixI, nullI_fix g q]
theorem nullL_still {g : Gr} : ∀ (rs : List Ru) (x : List Bool × Bool), (rs.foldl (nullS g) x).2 = false → rs.foldl (nullS g) x = x ∧ ∀ r ∈ rs, nullS g x r = x
  | [], x, h => ⟨rfl, by simp⟩
  | r :: rs, x, h => by
    rw [List.foldl_cons] at h
    obtain ⟨h1, h2⟩ := nullL_still rs _ h
    rw [h1] at h
    have h3 : nullS g x r = x := by
      unfold nullS at h ⊢
      split
      · rename_i hc; rw [if_pos hc] at h; cases h
      · rfl
    rw [h3] at h1 h2
    refine ⟨by rw [List.foldl_cons, h3, h1], fun r' hr' => ?_⟩
    rcases List.mem_cons.1 hr' with rfl | h4
    · exact h3
    · exact h2 r' h4
theorem null_closed {g : Gr} {n : Nat} (hlt : ∀ r ∈ g.rules, r.left.toNat < n) : ∀ r ∈ g.rules, emptyF g (nullF g n) r.right = true → (nullF g n).getD r.left.toNat false = true := by
  obtain ⟨y, hy, hb, he⟩ := fixI_done (R := nullR g) (m := fun o => o.count false) (p := fun o => o.length = n) (fun x hx => by unfold nullR; rw [nullL_len]; exact hx) (fun x hx hb => by
    rcases (nullL_cnt g n g.rules (x, false) hlt hx).2 hb with h | h
    · cases h
    · exact h) (n + 1) (List.replicate n false) (by simp) (by simp)
  have hN : nullF g n = (nullR g y).1 := by unfold nullF; rw [nullI_fix]; exact he
  obtain ⟨h1, h2⟩ := nullL_still g.rules (y, false) hb
  have hy' : nullF g n = y := by rw [hN]; unfold nullR; rw [h1]
  rw [hy']
  intro r hr hemp
  have h3 := h2 r hr
  cases hc : y.getD r.left.toNat false with
  | true => rfl
  | false =>
    unfold nullS at h3
    simp only [hc, hemp] at h3
    simp at h3
/-- A row of symbols leads from a place to another. -/
def Chn (ks : List Int) (n : Nat) (F : List (List Bool)) : List Int → Nat → Nat → Prop
  | [], i, j => i = j
  | s :: l, i, j => ∃ m, m ≤ n ∧ link ks n F s i m = true ∧ Chn ks n F l m j
theorem link_le {ks : List Int} {n : Nat} {F : List (List Bool)} {s : Int} {i j : Nat} (h : link ks n F s i j = true) : i ≤ j := by
  unfold link at h
  split at h
  · simp only [Bool.and_eq_true, decide_eq_true_eq] at h; omega
  · simp only [Bool.and_eq_true, decide_eq_true_eq] at h; omega
theorem chn_le {ks : List Int} {n : Nat} {F : List (List Bool)} : ∀ {l : List Int} {i j : Nat}, Chn ks n F l i j → i ≤ j
  | [], i, j, h => Nat.le_of_eq h
  | s :: l, i, j, ⟨m, _, h1, h2⟩ => Nat.le_trans (link_le h1) (chn_le h2)
theorem stepB_get {ks : List Int} {n : Nat} {F : List (List Bool)} {fr : Nat} {now : List Bool} {s : Int} {j : Nat} : (stepB ks n F fr now s).getD j false = true ↔ j ≤ n ∧ ∃ i, fr ≤ i ∧ i ≤ n ∧ now.getD i false = true ∧ link ks n F s i j = true := by
  by_cases hj : j ≤ n
  · unfold stepB
    rw [tab_getD hj]
    unfold stepT
    rw [List.any_eq_true]
    constructor
    · rintro ⟨i, hi, h⟩
      have := List.mem_range.1 hi
      simp only [Bool.and_eq_true, decide_eq_true_eq] at h
      exact ⟨hj, i, h.1, by omega, h.2.1, h.2.2⟩
    · rintro ⟨_, i, h1, h2, h3, h4⟩
      exact ⟨i, List.mem_range.2 (by omega), by rw [h3, h4, decide_eq_true h1]; rfl⟩
  · rw [List.getD_eq_getElem?_getD, List.getElem?_eq_none (by unfold stepB; rw [tab_len]; omega)]
    simp [hj]
theorem rowL_chn {ks : List Int} {n : Nat} {F : List (List Bool)} {fr to : Nat} (hto : to ≤ n) : ∀ (l : List Int) (now : List Bool), (∀ i, now.getD i false = true → fr ≤ i) → ((l.foldl (stepB ks n F fr) now).getD to false = true ↔ ∃ i, fr ≤ i ∧ i ≤ n ∧ now.getD i false = true ∧ Chn ks n F l i to)
  | [], now, h => ⟨fun h1 => ⟨to, h _ h1, hto, h1, rfl⟩, fun ⟨i, _, _, h1, h2⟩ => by have h2 : i = to := h2; subst h2; exact h1⟩
  | s :: l, now, h => by
    rw [List.foldl_cons, rowL_chn hto l _ (fun i hi => by
      obtain ⟨_, i', h1, _, _, h4⟩ := stepB_get.1 hi
      exact Nat.le_trans h1 (link_le h4))]
    constructor
    · rintro ⟨i, h1, h2, h3, h4⟩
      obtain ⟨h5, i', g1, g2, g3, g4⟩ := stepB_get.1 h3
      exact ⟨i', g1, g2, g3, i, h2, g4, h4⟩
    · rintro ⟨i', g1, g2, g3, i, h2, g4, h4⟩
      exact ⟨i, Nat.le_trans g1 (link_le g4), h2, stepB_get.2 ⟨h2, i', g1, g2, g3, g4⟩, h4⟩
theorem row0_get {n fr i : Nat} (h : fr ≤ n) : (row0 n fr).getD i false = true ↔ i = fr := by
  by_cases hi : i ≤ n
  · unfold row0; rw [tab_getD hi]; simp
  · rw [List.getD_eq_getElem?_getD, List.getElem?_eq_none (by unfold row0; rw [tab_len]; omega)]
    simp; omega
theorem rowF_chn {ks : List Int} {n : Nat} {F : List (List Bool)} {l : List Int} {fr to : Nat} (hf : fr ≤ n) (hto : to ≤ n) : (rowF ks n F l fr).getD to false = true ↔ Chn ks n F l fr to := by
  unfold rowF
  rw [rowL_chn hto l _ (fun i hi => by rw [(row0_get hf).1 hi]; exact Nat.le_refl _)]
  constructor
  · rintro ⟨i, _, _, h1, h2⟩
    rw [(row0_get hf).1 h1] at h2; exact h2
  · exact fun h => ⟨fr, Nat.le_refl _, hf, (row0_get hf).2 rfl, h⟩
theorem rowF_some {ks : List Int} {n : Nat} {F : List (List Bool)} {l : List Int} {fr to : Nat} (h : (rowF ks n F l fr).getD to false = true) : to ≤ n := by
  apply Classical.byContradiction
  intro hn
  rw [List.getD_eq_getElem?_getD, List.getElem?_eq_none (by unfold rowF; rw [rowF_len ks n F fr l (row0 n fr) (tab_len _ _)]; omega)] at h
  cases h
/-- All that one chart says the other one says too. -/
def MSub (F F' : List (List Bool)) : Prop := ∀ p j, getM F p j = true → getM F' p j = true
theorem link_mono {ks : List Int} {n : Nat} {F F' : List (List Bool)} (h : MSub F F') {s : Int} {i j : Nat} (hl : link ks n F s i j = true) : link ks n F' s i j = true := by
  unfold link at hl ⊢
  split
  · rename_i h0; rw [if_pos h0] at hl; exact hl
  · rename_i h0
    rw [if_neg h0] at hl
    simp only [Bool.and_eq_true] at hl ⊢
    exact ⟨hl.1, h _ _ hl.2⟩
theorem chn_mono {ks : List Int} {n : Nat} {F F' : List (List Bool)} (h : MSub F F') : ∀ {l : List Int} {i j : Nat}, Chn ks n F l i j → Chn ks n F' l i j
  | [], i, j, hc => hc
  | s :: l, i, j, ⟨m, h0, h1, h2⟩ => ⟨m, h0, link_mono h h1, chn_mono h h2⟩
theorem joinS_at {x : List (List Bool) × Bool} {s : Nat} {f : List Bool} {p j : Nat} (h : getM (joinS s f x).1 p j = true) : getM x.1 p j = true ∨ (p = s ∧ f.getD j false = true) := by
  unfold getM joinS at h
  simp only at h
  by_cases hp : p = s
  · subst hp
    by_cases hl : p < x.1.length
    · rw [List.getD_eq_getElem?_getD (l := x.1.set _ _), List.getElem?_set, if_pos rfl, if_pos hl, Option.getD_some] at h
      by_cases hj : j < (x.1.getD p []).length
      · rw [orL_getD hj] at h
        simp only [Bool.or_eq_true] at h
        rcases h with h | h
        · exact .inl h
        · exact .inr ⟨rfl, h⟩
      · rw [List.getD_eq_getElem?_getD, List.getElem?_eq_none (by rw [orL_len]; omega)] at h; cases h
    · rw [List.set_eq_of_length_le (by omega)] at h
      exact .inl h
  · rw [List.getD_eq_getElem?_getD (l := x.1.set _ _), List.getElem?_set, if_neg (fun e => hp e.symm), ← List.getD_eq_getElem?_getD] at h
    exact .inl h
theorem joinS_sub (x : List (List Bool) × Bool) (s : Nat) (f : List Bool) : MSub x.1 (joinS s f x).1 := by
  intro p j h
  unfold getM joinS
  simp only
  by_cases hp : p = s
  · subst hp
    by_cases hl : p < x.1.length
    · rw [List.getD_eq_getElem?_getD (l := x.1.set _ _), List.getElem?_set, if_pos rfl, if_pos hl, Option.getD_some]
      unfold getM at h
      by_cases hj : j < (x.1.getD p []).length
      · rw [orL_getD hj, h]; rfl
      · rw [List.getD_eq_getElem?_getD, List.getElem?_eq_none (by omega)] at h; cases h
    · rw [List.set_eq_of_length_le (by omega)]; exact h
  · rw [List.getD_eq_getElem?_getD (l := x.1.set _ _), List.getElem?_set, if_neg (fun e => hp e.symm), ← List.getD_eq_getElem?_getD]
    exact h
theorem idx_one {a b i j n : Nat} (hi : i ≤ n) (hj : j ≤ n) (h : a * (n + 1) + i = b * (n + 1) + j) : a = b ∧ i = j := by
  have h1 : (a * (n + 1) + i) / (n + 1) = a := by rw [Nat.mul_comm, Nat.mul_add_div (by omega), Nat.div_eq_of_lt (by omega)]; rfl
  have h2 : (b * (n + 1) + j) / (n + 1) = b := by rw [Nat.mul_comm, Nat.mul_add_div (by omega), Nat.div_eq_of_lt (by omega)]; rfl
  rw [h] at h1
  have : a = b := by omega
  subst this
  exact ⟨rfl, by omega⟩
/-- What holds of the chart at each moment: each entry has its rule, and one from a place to itself is of a name that derives nothing. -/
structure Sup (g : Gr) (ks : List Int) (N n : Nat) (F : List (List Bool)) : Prop where
  rule : ∀ a i j, i ≤ n → chAt n F a i j = true → i ≤ j ∧ j ≤ n ∧ ∃ r ∈ g.rules, r.left.toNat = a ∧ Chn ks n F r.right i j
  null : ∀ a i, i ≤ n → chAt n F a i i = true → (nullF g N).getD a false = true
theorem chn_null {g : Gr} {ks : List Int} {N n : Nat} {F : List (List Bool)} (h : Sup g ks N n F) : ∀ {l : List Int} {i : Nat}, i ≤ n → (∀ s ∈ l, isSym g s) → Chn ks n F l i i → emptyF g (nullF g N) l = true
  | [], i, _, _, _ => rfl
  | s :: l, i, hi, hs, ⟨m, h0, h1, h2⟩ => by
    have ha := link_le h1
    have hb := chn_le h2
    obtain rfl : m = i := by omega
    unfold emptyF
    rw [List.all_cons]
    have hr := chn_null h hi (fun t ht => hs t (by simp [ht])) h2
    unfold emptyF at hr
    rw [hr, Bool.and_true]
    unfold link at h1
    split at h1
    · simp only [Bool.and_eq_true, decide_eq_true_eq] at h1; omega
    · rename_i h3
      simp only [Bool.and_eq_true] at h1
      have := hs s (by simp)
      rw [h.null _ _ hi h1.2, Bool.and_true]
      unfold isSym isKind at this
      rcases this with h4 | h4
      · omega
      · exact decide_eq_true h4
theorem sup_step {g : Gr} {ks : List Int} {N n : Nat} (hsy : ∀ r ∈ g.rules, ∀ s ∈ r.right, isSym g s) (hlt : ∀ r ∈ g.rules, r.left.toNat < N) {r : Ru} (hr : r ∈ g.rules) {x : List (List Bool) × Bool} {i : Nat} (hi : i ≤ n) (h : Sup g ks N n x.1) : Sup g ks N n (chS ks n r x i).1 := by
  have hsub : MSub x.1 (chS ks n r x i).1 := joinS_sub _ _ _
  have key : ∀ a i' j, i' ≤ n → chAt n (chS ks n r x i).1 a i' j = true → chAt n x.1 a i' j = true ∨ (a = r.left.toNat ∧ i' = i ∧ i ≤ j ∧ j ≤ n ∧ Chn ks n x.1 r.right i j) := by
    intro a i' j hi' hc
    rcases joinS_at hc with h1 | ⟨h1, h2⟩
    · exact .inl h1
    · obtain ⟨h3, h4⟩ := idx_one hi' hi h1
      unfold fromT at h2
      by_cases hj : j ≤ n
      · rw [tab_getD hj] at h2
        simp only [Bool.and_eq_true, decide_eq_true_eq] at h2
        exact .inr ⟨h3, h4, h2.1, hj, (rowF_chn hi hj).1 h2.2⟩
      · rw [List.getD_eq_getElem?_getD, List.getElem?_eq_none (by rw [tab_len]; omega)] at h2; cases h2
  refine ⟨fun a i' j hi' hc => ?_, fun a i' hi' hc => ?_⟩
  · rcases key a i' j hi' hc with h1 | ⟨rfl, rfl, h3, h4, h5⟩
    · obtain ⟨g1, g2, r', g3, g4, g5⟩ := h.rule a i' j hi' h1
      exact ⟨g1, g2, r', g3, g4, chn_mono hsub g5⟩
    · exact ⟨h3, h4, r, hr, rfl, chn_mono hsub h5⟩
  · rcases key a i' i' hi' hc with h1 | ⟨rfl, rfl, h3, h4, h5⟩
    · exact h.null a i' hi' h1
    · exact null_closed hlt r hr (chn_null h hi (hsy r hr) h5)
theorem sup_fold {α : Type} {g : Gr} {ks : List Int} {N n : Nat} {f : List (List Bool) × Bool → α → List (List Bool) × Bool} : ∀ (l : List α) (x : List (List Bool) × Bool), (∀ a ∈ l, ∀ x, Sup g ks N n x.1 → Sup g ks N n (f x a).1) → Sup g ks N n x.1 → Sup g ks N n (l.foldl f x).1
  | [], _, _, h => h
  | a :: l, x, hf, h => sup_fold l _ (fun b hb => hf b (by simp [hb])) (hf a (by simp) x h)
theorem zeroF_get (N k p j : Nat) : getM (zeroF N k) p j = false := by
  unfold getM zeroF
  rw [List.getD_eq_getElem?_getD (l := List.replicate _ _), List.getElem?_replicate]
  split
  · rw [Option.getD_some]
    unfold zeroB
    rw [List.getD_eq_getElem?_getD, List.getElem?_replicate]
    split <;> rfl
  · rfl
theorem chF_sup {g : Gr} {ks : List Int} {N n : Nat} (hsy : ∀ r ∈ g.rules, ∀ s ∈ r.right, isSym g s) (hlt : ∀ r ∈ g.rules, r.left.toNat < N) : Sup g ks N n (chF g ks N n) := by
  unfold chF
  refine fixI_ok (p := Sup g ks N n) (fun F h => ?_) _ _ ⟨fun a i j _ h => ?_, fun a i _ h => ?_⟩
  · unfold chI
    refine sup_fold _ _ (fun r hr x hx => ?_) h
    unfold chR
    exact sup_fold _ _ (fun i hi x hx => sup_step hsy hlt hr (by have := List.mem_range.1 (List.mem_reverse.1 hi); omega) hx) hx
  · unfold chAt at h; rw [zeroF_get] at h; cases h
  · unfold chAt at h; rw [zeroF_get] at h; cases h
end Go.Proofs.Ytnlmfhnjjblhoaa.Ab
/- A grammar without a name that comes back to itself: a rank of names that falls along rules of one name alone. No condition. -/
set_option linter.unusedVariables false
set_option linter.unusedSimpArgs false
namespace Go.Proofs.Ytnlmfhnjjblhoaa.Ab

theorem fold_all {α β : Type} {I : β → Prop} {P : α → β → Prop} {f : β → α → β} : ∀ (L : List α) (x : β), (∀ x, ∀ a ∈ L, I x → I (f x a)) → (∀ x, ∀ a ∈ L, I x → P a (f x a)) → (∀ x, ∀ a ∈ L, ∀ b, I x → P b x → P b (f x a)) → I x → I (L.foldl f x) ∧ (∀ b, P b x → P b (L.foldl f x)) ∧ ∀ a ∈ L, P a (L.foldl f x)
  | [], x, _, _, _, h => ⟨h, fun _ hb => hb, by simp⟩
  | a :: L, x, h1, h2, h3, h => by
    obtain ⟨g1, g2, g3⟩ := fold_all L (f x a) (fun x b hb => h1 x b (by simp [hb])) (fun x b hb => h2 x b (by simp [hb])) (fun x b hb => h3 x b (by simp [hb])) (h1 x a (by simp) h)
    refine ⟨g1, fun b hb => g2 b (h3 x a (by simp) b h hb), fun b hb => ?_⟩
    rcases List.mem_cons.1 hb with rfl | hb
    · exact g2 b (h2 x b (by simp) h)
    · exact g3 b hb
theorem setM_get {n k : Nat} {F : List (List Bool)} (h : FOk n k F) {i j : Nat} (hi : i < n) (hj : j ≤ k) (v : Bool) (p q : Nat) : getM (setM F i j v) p q = if p = i ∧ q = j then v else getM F p q := by
  obtain ⟨x, hx, hl⟩ := fok_at h hi
  have hil : i < F.length := by rw [h.1]; exact hi
  rw [setM_of hx]
  unfold getM
  by_cases hp : p = i
  · subst hp
    rw [List.getD_eq_getElem?_getD (l := F.set _ _), List.getElem?_set, if_pos rfl, if_pos hil, Option.getD_some, List.getD_eq_getElem?_getD, List.getElem?_set]
    by_cases hq : q = j
    · subst hq; rw [if_pos rfl, if_pos (by omega), if_pos ⟨rfl, rfl⟩]; rfl
    · rw [if_neg (fun e => hq e.symm), if_neg (fun e => hq e.2), List.getD_eq_getElem?_getD (l := F), hx, Option.getD_some, List.getD_eq_getElem?_getD]
  · rw [List.getD_eq_getElem?_getD (l := F.set _ _), List.getElem?_set, if_neg (fun e => hp e.symm), if_neg (fun e => hp e.1), ← List.getD_eq_getElem?_getD]
theorem setM_true {n k : Nat} {F : List (List Bool)} (h : FOk n k F) {i j : Nat} (hi : i < n) (hj : j ≤ k) : MSub F (setM F i j true) ∧ getM (setM F i j true) i j = true := by
  refine ⟨fun p q hpq => ?_, by rw [setM_get h hi hj, if_pos ⟨rfl, rfl⟩]⟩
  rw [setM_get h hi hj]; split
  · rfl
  · exact hpq
/-- Between the chart before a step and what it may become. -/
structure Wi (n k m : Nat) (F0 F : List (List Bool)) : Prop where
  ok : FOk n k F
  lo : MSub F0 F
  hi : ∀ p q, getM F p q = true → getM F0 p q = true ∨ getM F0 p m = true ∧ getM F0 m q = true
theorem closS_wi {n k m i j : Nat} {F0 F : List (List Bool)} (hi : i < n) (hj : j ≤ k) (h : Wi n k m F0 F) : Wi n k m F0 (closS m i F j) ∧ MSub F (closS m i F j) ∧ (getM F0 i j = true ∨ getM F0 i m = true ∧ getM F0 m j = true → getM (closS m i F j) i j = true) := by
  have hm : MSub F (closS m i F j) := by
    intro p q hpq
    unfold closS
    rw [setM_get h.ok hi hj]
    split
    · rename_i e; rw [← e.1, ← e.2, hpq]; rfl
    · exact hpq
  refine ⟨⟨setM_ok h.ok hi _ _, fun p q hpq => hm p q (h.lo p q hpq), fun p q hpq => ?_⟩, hm, fun hc => ?_⟩
  · unfold closS at hpq
    rw [setM_get h.ok hi hj] at hpq
    split at hpq
    · rename_i e
      obtain ⟨rfl, rfl⟩ := e
      simp only [Bool.or_eq_true, Bool.and_eq_true] at hpq
      rcases hpq with h1 | ⟨h1, h2⟩
      · exact h.hi _ _ h1
      · have a1 : getM F0 p m = true := by rcases h.hi _ _ h1 with h3 | h3; exact h3; exact h3.1
        have a2 : getM F0 m q = true := by rcases h.hi _ _ h2 with h3 | h3; exact h3; exact h3.2
        exact .inr ⟨a1, a2⟩
    · exact h.hi _ _ hpq
  · unfold closS
    rw [setM_get h.ok hi hj, if_pos ⟨rfl, rfl⟩]
    rcases hc with h1 | ⟨h1, h2⟩
    · rw [h.lo _ _ h1]; rfl
    · rw [h.lo _ _ h1, h.lo _ _ h2]; simp
theorem closK_wi {n k m : Nat} {F : List (List Bool)} (hn : n = k + 1) (h : FOk n k F) : Wi n k m F (closK n F m) ∧ ∀ i j, i < n → j < n → (getM F i j = true ∨ getM F i m = true ∧ getM F m j = true → getM (closK n F m) i j = true) := by
  have hr : ∀ (G : List (List Bool)) (i : Nat), i < n → Wi n k m F G → Wi n k m F (closR n m G i) ∧ MSub G (closR n m G i) ∧ ∀ j ∈ List.range n, (getM F i j = true ∨ getM F i m = true ∧ getM F m j = true → getM (closR n m G i) i j = true) := by
    intro G i hi hG
    obtain ⟨g1, g2, g3⟩ := fold_all (I := fun X => Wi n k m F X ∧ MSub G X) (P := fun j X => (getM F i j = true ∨ getM F i m = true ∧ getM F m j = true → getM X i j = true)) (f := closS m i) (List.range n) G
      (fun x a ha hx => by
        have := List.mem_range.1 ha
        obtain ⟨b1, b2, b3⟩ := closS_wi (j := a) hi (by omega) hx.1
        exact ⟨b1, fun p q hpq => b2 p q (hx.2 p q hpq)⟩)
      (fun x a ha hx => by
        have := List.mem_range.1 ha
        exact (closS_wi (j := a) hi (by omega) hx.1).2.2)
      (fun x a ha b hx hb hc => by
        have := List.mem_range.1 ha
        exact (closS_wi (j := a) hi (by omega) hx.1).2.1 _ _ (hb hc)) ⟨hG, fun p q h => h⟩
    exact ⟨g1.1, g1.2, g3⟩
  obtain ⟨g1, g2, g3⟩ := fold_all (I := Wi n k m F) (P := fun i X => ∀ j, j < n → (getM F i j = true ∨ getM F i m = true ∧ getM F m j = true → getM X i j = true)) (f := closR n m) (List.range n) F
    (fun x a ha hx => (hr x a (List.mem_range.1 ha) hx).1)
    (fun x a ha hx j hj => (hr x a (List.mem_range.1 ha) hx).2.2 j (List.mem_range.2 hj))
    (fun x a ha b hx hb j hj hc => (hr x a (List.mem_range.1 ha) hx).2.1 _ _ (hb j hj hc)) ⟨h, fun p q h => h, fun p q h => .inl h⟩
  exact ⟨g1, fun i j hi hj => g3 i (List.mem_range.2 hi) j hj⟩
theorem warsh {n k : Nat} {F : List (List Bool)} (hn : n = k + 1) (h : FOk n k F) : ∀ m, m ≤ n → FOk n k ((List.range m).foldl (closK n) F) ∧ MSub F ((List.range m).foldl (closK n) F) ∧ ∀ q i j, q < m → i < n → j < n → getM ((List.range m).foldl (closK n) F) i q = true → getM ((List.range m).foldl (closK n) F) q j = true → getM ((List.range m).foldl (closK n) F) i j = true
  | 0, _ => ⟨h, fun p q h => h, fun q i j h => absurd h (by omega)⟩
  | m + 1, hm => by
    obtain ⟨h1, h2, h3⟩ := warsh hn h m (by omega)
    rw [List.range_succ, List.foldl_append, List.foldl_cons, List.foldl_nil]
    generalize (List.range m).foldl (closK n) F = G at *
    obtain ⟨g1, g2⟩ := closK_wi (m := m) hn h1
    refine ⟨g1.ok, fun p q hpq => g1.lo _ _ (h2 _ _ hpq), fun q i j hq hi hj a b => g2 i j hi hj ?_⟩
    by_cases e : q = m
    · subst e
      have a' : getM G i q = true := by rcases g1.hi _ _ a with h4 | h4; exact h4; exact h4.1
      have b' : getM G q j = true := by rcases g1.hi _ _ b with h4 | h4; exact h4; exact h4.2
      exact .inr ⟨a', b'⟩
    · have hqm : q < m := by omega
      rcases g1.hi _ _ a with a1 | ⟨a1, a2⟩ <;> rcases g1.hi _ _ b with b1 | ⟨b1, b2⟩
      · exact .inl (h3 q i j hqm hi hj a1 b1)
      · exact .inr ⟨h3 q i m hqm hi (by omega) a1 b1, b2⟩
      · exact .inr ⟨a1, h3 q m j hqm (by omega) hj a2 b1⟩
      · exact .inr ⟨a1, b2⟩
theorem edge_in {g : Gr} {n k : Nat} (hn : n = k + 1) (hlt : ∀ r ∈ g.rules, r.left.toNat < n) (hsy : ∀ r ∈ g.rules, ∀ s ∈ r.right, isSym g s) (hN : g.names = n) : FOk n k (edgeF g n) ∧ ∀ r ∈ g.rules, ∀ q, q < r.right.length → aloneT (nullF g n) r.right q r.right.length = true → getM (edgeF g n) r.left.toNat (r.right.getD q 0).toNat = true := by
  have hal : ∀ r ∈ g.rules, ∀ q, q < r.right.length → aloneT (nullF g n) r.right q r.right.length = true → (r.right.getD q 0).toNat ≤ k := by
    intro r hr q hq ha
    have h1 := hsy r hr (r.right.getD q 0) (by rw [List.getD_eq_getElem?_getD, List.getElem?_eq_getElem hq]; exact List.getElem_mem hq)
    unfold aloneT at ha
    simp only [Bool.and_eq_true, decide_eq_true_eq] at ha
    have := ha.1
    unfold isSym isKind isName at h1
    omega
  have hE : edgeF g n = g.rules.foldl (edgeR (nullF g n)) (zeroF n k) := by unfold edgeF; rw [hn]; rfl
  rw [hE]
  have one : ∀ r ∈ g.rules, ∀ F, FOk n k F → FOk n k (edgeR (nullF g n) F r) ∧ MSub F (edgeR (nullF g n) F r) ∧ ∀ q ∈ List.range r.right.length, aloneT (nullF g n) r.right q r.right.length = true → getM (edgeR (nullF g n) F r) r.left.toNat (r.right.getD q 0).toNat = true := by
    intro r hr F hF
    have st : ∀ X q, q ∈ List.range r.right.length → FOk n k X → FOk n k (edgeS (nullF g n) r X q) ∧ MSub X (edgeS (nullF g n) r X q) ∧ (aloneT (nullF g n) r.right q r.right.length = true → getM (edgeS (nullF g n) r X q) r.left.toNat (r.right.getD q 0).toNat = true) := by
      intro X q hq hX
      unfold edgeS
      split
      · rename_i ha
        have := hal r hr q (List.mem_range.1 hq) ha
        exact ⟨setM_ok hX (hlt r hr) _ _, (setM_true hX (hlt r hr) this).1, fun _ => (setM_true hX (hlt r hr) this).2⟩
      · rename_i ha
        exact ⟨hX, fun p q h => h, fun h => absurd h ha⟩
    obtain ⟨g1, g2, g3⟩ := fold_all (I := fun X => FOk n k X ∧ MSub F X) (P := fun q X => aloneT (nullF g n) r.right q r.right.length = true → getM X r.left.toNat (r.right.getD q 0).toNat = true) (f := edgeS (nullF g n) r) (List.range r.right.length) F
      (fun x a ha hx => ⟨(st x a ha hx.1).1, fun p q hpq => (st x a ha hx.1).2.1 _ _ (hx.2 _ _ hpq)⟩)
      (fun x a ha hx => (st x a ha hx.1).2.2)
      (fun x a ha b hx hb hc => (st x a ha hx.1).2.1 _ _ (hb hc)) ⟨hF, fun p q h => h⟩
    exact ⟨g1.1, g1.2, g3⟩
  obtain ⟨g1, g2, g3⟩ := fold_all (I := FOk n k) (P := fun (r : Ru) (X : List (List Bool)) => ∀ q ∈ List.range r.right.length, aloneT (nullF g n) r.right q r.right.length = true → getM X r.left.toNat (r.right.getD q 0).toNat = true) (f := edgeR (nullF g n)) g.rules (zeroF n k)
    (fun x r hr hx => (one r hr x hx).1)
    (fun x r hr hx => (one r hr x hx).2.2)
    (fun x r hr b hx hb q hq hc => (one r hr x hx).2.1 _ _ (hb q hq hc)) (zeroF_ok n k)
  exact ⟨g1, fun r hr q hq ha => g3 r hr q (List.mem_range.2 hq) ha⟩
theorem cntP_lt {p q : Nat → Bool} : ∀ {L : List Nat}, (∀ x ∈ L, p x = true → q x = true) → ∀ {y : Nat}, y ∈ L → q y = true → p y = false → L.countP p < L.countP q
  | [], _, y, hy, _, _ => by cases hy
  | x :: L, h, y, hy, h1, h2 => by
    have hle : L.countP p ≤ L.countP q := List.countP_mono_left fun z hz hp => h z (by simp [hz]) hp
    rw [List.countP_cons, List.countP_cons]
    rcases List.mem_cons.1 hy with rfl | hy
    · rw [h1, h2]; simp; omega
    · have := cntP_lt (fun z hz => h z (by simp [hz])) hy h1 h2
      have hx := h x (by simp)
      cases hp : p x
      · simp; omega
      · rw [hx hp]; simp; omega
/-- How many names a name leads to, each alone. -/
def rank (g : Gr) (n a : Nat) : Nat := (List.range n).countP fun b => getM (closF n (edgeF g n)) a b
theorem rank_le (g : Gr) (n a : Nat) : rank g n a ≤ n := by
  unfold rank
  refine Nat.le_trans (List.countP_le_length) ?_
  simp
theorem rank_fall {g : Gr} {n k : Nat} (hn : n = k + 1) (hlt : ∀ r ∈ g.rules, r.left.toNat < n) (hsy : ∀ r ∈ g.rules, ∀ s ∈ r.right, isSym g s) (hN : g.names = n) (hc : (cycF g n).any id = false) : ∀ r ∈ g.rules, ∀ q, q < r.right.length → aloneT (nullF g n) r.right q r.right.length = true → rank g n (r.right.getD q 0).toNat < rank g n r.left.toNat := by
  intro r hr q hq ha
  obtain ⟨h1, h2⟩ := edge_in hn hlt hsy hN
  obtain ⟨g1, g2, g3⟩ := warsh hn h1 n (Nat.le_refl _)
  have hE := g2 _ _ (h2 r hr q hq ha)
  have hb : (r.right.getD q 0).toNat < n := by
    have h1 := hsy r hr (r.right.getD q 0) (by rw [List.getD_eq_getElem?_getD, List.getElem?_eq_getElem hq]; exact List.getElem_mem hq)
    unfold aloneT at ha
    simp only [Bool.and_eq_true, decide_eq_true_eq] at ha
    have := ha.1
    unfold isSym isKind isName at h1
    omega
  have hd : ∀ i, i < n → getM (closF n (edgeF g n)) i i = false := by
    intro i hi
    rw [List.any_eq_false] at hc
    have := hc (getM (closF n (edgeF g n)) i i) (List.mem_map.2 ⟨i, List.mem_range.2 hi, rfl⟩)
    simpa using this
  unfold rank
  refine cntP_lt (fun x hx hp => ?_) (List.mem_range.2 hb) hE (hd _ hb)
  exact g3 _ _ _ hb (hlt r hr) (List.mem_range.1 hx) hE hp
end Go.Proofs.Ytnlmfhnjjblhoaa.Ab
/- Chapter 19's reference in plain terms: what the ways of a key are, and what the queue of Build ends with. No condition. -/
set_option linter.unusedVariables false
set_option linter.unusedSimpArgs false
namespace Go.Proofs.Ytnlmfhnjjblhoaa.Ab

theorem nodup_on {α β : Type} {f : α → β} {l : List α} (hf : ∀ a ∈ l, ∀ b ∈ l, f a = f b → a = b) (h : l.Nodup) : (l.map f).Nodup := by
  unfold List.Nodup at *
  rw [List.pairwise_map]
  exact h.imp_of_mem fun ha hb hne e => hne (hf _ ha _ hb e)
/-- A way: kids one behind the other, each of its symbol. -/
def WayOk (ks : List Int) (n : Nat) (F : List (List Bool)) : List Int → Nat → Nat → List Ky → Prop
  | [], fr, to, w => w = [] ∧ fr = to
  | s :: l, fr, to, w => ∃ (j : Nat) (w' : List Ky), w = kyOf s fr j :: w' ∧ j ≤ n ∧ link ks n F s fr j = true ∧ WayOk ks n F l j to w'
theorem waysL_way {ks : List Int} {n : Nat} {F : List (List Bool)} {R : Nat → Nat → List (List Ky)} {s : Int} {l : List Int} {fr to m : Nat} (hto : to ≤ n) (hR : ∀ j m', j ≤ to → ∀ w ∈ R j m', WayOk ks n F l j to w) : ∀ (L : List Nat) (out : List (List Ky)), (∀ j ∈ L, j ≤ to) → (∀ w ∈ out, WayOk ks n F (s :: l) fr to w) → ∀ w ∈ L.foldl (waysS ks n F R s l fr to m) out, WayOk ks n F (s :: l) fr to w
  | [], _, _, h => h
  | j :: L, out, hL, h => waysL_way hto hR L _ (fun q hq => hL q (by simp [hq])) (by
    have hjt := hL j (by simp)
    intro w hw
    unfold waysS at hw
    split at hw
    · rename_i hc
      rcases List.mem_append.1 hw with h1 | h1
      · exact h w h1
      · obtain ⟨v, hv, rfl⟩ := List.mem_map.1 h1
        exact ⟨j, v, rfl, by omega, hc.2.2.1, hR j _ hjt v hv⟩
    · exact h w hw)
theorem waysF_way {ks : List Int} {n : Nat} {F : List (List Bool)} : ∀ (l : List Int) (fr to m : Nat), to ≤ n → ∀ w ∈ waysF ks n F l fr to m, WayOk ks n F l fr to w
  | [], fr, to, m, _, w, hw => by
    unfold waysF at hw
    split at hw
    · rename_i h; exact ⟨by simpa using hw, h⟩
    · simp at hw
  | s :: l, fr, to, m, hto, w, hw => by
    unfold waysF at hw
    exact waysL_way hto (fun j m' hj => waysF_way l j to m' hto) _ _ (fun j hj => by have := List.mem_range.1 hj; omega) (by simp) w hw
theorem waysF_some {ks : List Int} {n : Nat} {F : List (List Bool)} : ∀ (l : List Int) (fr to m : Nat), fr ≤ n → to ≤ n → Chn ks n F l fr to → waysF ks n F l fr to m ≠ []
  | [], fr, to, m, _, _, h => by
    unfold waysF
    have h : fr = to := h
    rw [if_pos h]; simp
  | s :: l, fr, to, m, hfr, hto, ⟨j, hj, h1, h2⟩ => by
    unfold waysF
    have hjt := chn_le h2
    have hfj := link_le h1
    obtain ⟨_, _, g3⟩ := fold_all (I := fun _ : List (List Ky) => True) (P := fun q X => q = j → X ≠ []) (f := waysS ks n F (fun j m' => waysF ks n F l j to m') s l fr to m) (List.range (to + 1)) []
      (fun _ _ _ _ => trivial)
      (fun x a ha _ haj => by
        subst haj
        unfold waysS
        by_cases hx : x.length ≤ m
        · rw [if_pos ⟨hfj, hx, h1, (rowF_chn hj hto).2 h2⟩]
          have := waysF_some l a to (m - x.length) hj hto h2
          intro e
          have e2 := (List.append_eq_nil_iff.1 e).2
          exact this (by simpa using e2)
        · rw [if_neg (fun hc => hx hc.2.1)]
          intro e; subst e; simp at hx)
      (fun x a ha b _ hb hbj => by
        have := hb hbj
        unfold waysS
        split
        · intro e; exact this (List.append_eq_nil_iff.1 e).1
        · exact this) trivial
    exact g3 j (List.mem_range.2 (by omega)) rfl
theorem waysL_nodup {ks : List Int} {n : Nat} {F : List (List Bool)} {R : Nat → Nat → List (List Ky)} {s : Int} {l : List Int} {fr to m : Nat} (hR : ∀ j m', (R j m').Nodup) : ∀ (L : List Nat) (out : List (List Ky)), L.Nodup → out.Nodup → (∀ w ∈ out, ∀ y ∈ w.head?, ∀ j ∈ L, y.2.2 ≠ (j : Int)) → (L.foldl (waysS ks n F R s l fr to m) out).Nodup
  | [], _, _, h, _ => h
  | j :: L, out, hL, h, hh => by
    obtain ⟨hj, hL⟩ := List.nodup_cons.1 hL
    rw [List.foldl_cons]
    refine waysL_nodup hR L _ hL ?_ ?_
    · unfold waysS
      split
      · refine List.nodup_append.2 ⟨h, nodup_on (fun a _ b _ e => by simpa using e) (hR _ _), fun a ha b hb e => ?_⟩
        subst e
        obtain ⟨v, hv, rfl⟩ := List.mem_map.1 hb
        exact hh _ ha (kyOf s fr j) rfl j (by simp) rfl
      · exact h
    · intro w hw y hy q hq
      unfold waysS at hw
      split at hw
      · rcases List.mem_append.1 hw with h1 | h1
        · exact hh w h1 y hy q (by simp [hq])
        · obtain ⟨v, hv, rfl⟩ := List.mem_map.1 h1
          have : kyOf s fr j = y := by simpa using hy
          subst this
          intro e
          have e : (j : Int) = q := e
          exact hj (by have : j = q := by omega
                       subst this; exact hq)
      · exact hh w hw y hy q (by simp [hq])
theorem waysF_nodup {ks : List Int} {n : Nat} {F : List (List Bool)} : ∀ (l : List Int) (fr to m : Nat), (waysF ks n F l fr to m).Nodup
  | [], fr, to, m => by unfold waysF; split <;> simp
  | s :: l, fr, to, m => by
    unfold waysF
    exact waysL_nodup (fun j m' => waysF_nodup l j to m') _ _ List.nodup_range (by simp) (by simp)

/-- A token's key, and a node's. -/
def KyT (ks : List Int) (n : Nat) (y : Ky) : Prop := ∃ i : Nat, i < n ∧ y = (-1, (i : Int), ((i + 1 : Nat) : Int))
def KyN (N n : Nat) (F : List (List Bool)) (y : Ky) : Prop := ∃ s a b : Nat, s < N ∧ a ≤ b ∧ b ≤ n ∧ y = ((s : Int), (a : Int), (b : Int)) ∧ chAt n F s a b = true
theorem kyOf_is {g : Gr} {ks : List Int} {N n : Nat} {F : List (List Bool)} {s : Int} {a b : Nat} (hN : g.names = N) (hs : isSym g s) (hb : b ≤ n) (h : link ks n F s a b = true) : (s < 0 ∧ b = a + 1 ∧ a < n ∧ ks.getD a 0 = -1 - s ∧ kyOf s a b = (-1, (a : Int), ((a + 1 : Nat) : Int))) ∨ (∃ t : Nat, s = t ∧ t < N ∧ a ≤ b ∧ chAt n F t a b = true ∧ kyOf s a b = ((t : Int), (a : Int), (b : Int))) := by
  unfold link at h
  unfold kyOf
  split at h
  · rename_i h0
    simp only [Bool.and_eq_true, decide_eq_true_eq] at h
    rw [if_pos h0]
    exact .inl ⟨h0, h.1, h.2.1, h.2.2, by rw [h.1]⟩
  · rename_i h0
    simp only [Bool.and_eq_true, decide_eq_true_eq] at h
    rw [if_neg h0]
    obtain ⟨t, rfl⟩ := Int.eq_ofNat_of_zero_le (show 0 ≤ s by omega)
    unfold isSym isKind isName at hs
    exact .inr ⟨t, rfl, by omega, h.1, h.2, rfl⟩
theorem way_ky {g : Gr} {ks : List Int} {N n : Nat} {F : List (List Bool)} (hN : g.names = N) : ∀ {l : List Int} {fr to : Nat} {w : List Ky}, (∀ s ∈ l, isSym g s) → WayOk ks n F l fr to w → ∀ y ∈ w, KyT ks n y ∨ KyN N n F y
  | [], fr, to, w, _, ⟨h, _⟩, y, hy => by subst h; cases hy
  | s :: l, fr, to, w, hs, ⟨j, w', hw, h1, h2, h3⟩, y, hy => by
    subst hw
    rcases List.mem_cons.1 hy with rfl | hy
    · rcases kyOf_is hN (hs s (by simp)) h1 h2 with ⟨_, _, h4, _, h5⟩ | ⟨t, _, h4, h5, h6, h7⟩
      · exact .inl ⟨fr, h4, h5⟩
      · exact .inr ⟨t, fr, j, h4, h5, h1, h7, h6⟩
    · exact way_ky hN (fun t ht => hs t (by simp [ht])) h3 y hy

/-! ### the ways of one key -/
/-- What is known of a key's ways: each of a rule of its name, no two alike. -/
structure MineOk (g : Gr) (ks : List Int) (n : Nat) (F : List (List Bool)) (s : Int) (a b : Nat) (m : List Wy) : Prop where
  way : ∀ w ∈ m, ∃ j : Nat, w.1 = j ∧ j < g.rules.length ∧ (ruleAt g j).left = s ∧ WayOk ks n F (ruleAt g j).right a b w.2
  one : m.Nodup
theorem mineL_all {g : Gr} {ks : List Int} {n lim : Nat} {F : List (List Bool)} {k : Ky} : ∀ (L : List Nat) (x : List Wy × Nat), L.Nodup → (∀ j ∈ L, ∀ w ∈ x.1, w.1 ≠ (j : Int)) → x.1.Nodup → x.2 ≤ (L.foldl (mineS g ks n F lim k) x).2 ∧ (L.foldl (mineS g ks n F lim k) x).1.Nodup ∧ (∀ w ∈ (L.foldl (mineS g ks n F lim k) x).1, w ∈ x.1 ∨ ∃ j ∈ L, w.1 = (j : Int) ∧ (ruleAt g j).left = k.1 ∧ w.2 ∈ waysF ks n F (ruleAt g j).right k.2.1.toNat k.2.2.toNat lim) ∧ ((L.foldl (mineS g ks n F lim k) x).2 ≤ lim → (∀ w ∈ x.1, w ∈ (L.foldl (mineS g ks n F lim k) x).1) ∧ ∀ j ∈ L, (ruleAt g j).left = k.1 → ∀ v ∈ waysF ks n F (ruleAt g j).right k.2.1.toNat k.2.2.toNat lim, ((j : Int), v) ∈ (L.foldl (mineS g ks n F lim k) x).1)
  | [], x, _, _, h => ⟨Nat.le_refl _, h, fun w hw => .inl hw, fun _ => ⟨fun w hw => hw, by simp⟩⟩
  | j :: L, x, hL, hne, hx => by
    obtain ⟨hj, hL⟩ := List.nodup_cons.1 hL
    rw [List.foldl_cons]
    by_cases hc : x.2 ≤ lim ∧ (ruleAt g j).left = k.1
    · have he : mineS g ks n F lim k x j = (x.1 ++ (waysF ks n F (ruleAt g j).right k.2.1.toNat k.2.2.toNat lim).map fun w => ((j : Int), w), x.2 + (waysF ks n F (ruleAt g j).right k.2.1.toNat k.2.2.toNat lim).length) := by unfold mineS; rw [if_pos hc]
      obtain ⟨g1, g2, g3, g4⟩ := mineL_all (g := g) (ks := ks) (n := n) (lim := lim) (F := F) (k := k) L (mineS g ks n F lim k x j) hL (by
          rw [he]
          intro q hq w hw
          rcases List.mem_append.1 hw with h1 | h1
          · exact hne q (by simp [hq]) w h1
          · obtain ⟨v, _, rfl⟩ := List.mem_map.1 h1
            intro e
            have e : (j : Int) = q := e
            exact hj (by have : j = q := by omega
                         subst this; exact hq)) (by
          rw [he]
          refine List.nodup_append.2 ⟨hx, nodup_on (fun a _ b _ e => by simpa using e) (waysF_nodup _ _ _ _), fun a ha b hb e => ?_⟩
          subst e
          obtain ⟨v, _, rfl⟩ := List.mem_map.1 hb
          exact hne j (by simp) _ ha rfl)
      refine ⟨Nat.le_trans (by rw [he]; simp) g1, g2, fun w hw => ?_, fun hl => ?_⟩
      · rcases g3 w hw with h1 | ⟨q, hq, h1⟩
        · rw [he] at h1
          rcases List.mem_append.1 h1 with h2 | h2
          · exact .inl h2
          · obtain ⟨v, hv, rfl⟩ := List.mem_map.1 h2
            exact .inr ⟨j, by simp, rfl, hc.2, hv⟩
        · exact .inr ⟨q, by simp [hq], h1⟩
      · obtain ⟨g5, g6⟩ := g4 hl
        have g5 : ∀ w ∈ x.1 ++ (waysF ks n F (ruleAt g j).right k.2.1.toNat k.2.2.toNat lim).map (fun w => ((j : Int), w)), w ∈ (L.foldl (mineS g ks n F lim k) (mineS g ks n F lim k x j)).1 := fun w hw => g5 w (by rw [he]; exact hw)
        refine ⟨fun w hw => g5 w (List.mem_append.2 (.inl hw)), fun q hq hql v hv => ?_⟩
        rcases List.mem_cons.1 hq with rfl | hq
        · exact g5 _ (List.mem_append.2 (.inr (List.mem_map.2 ⟨v, hv, rfl⟩)))
        · exact g6 q hq hql v hv
    · have he : mineS g ks n F lim k x j = x := by unfold mineS; rw [if_neg hc]
      rw [he]
      obtain ⟨g1, g2, g3, g4⟩ := mineL_all (g := g) (ks := ks) (n := n) (lim := lim) (F := F) (k := k) L x hL (fun q hq => hne q (by simp [hq])) hx
      refine ⟨g1, g2, fun w hw => ?_, fun hl => ?_⟩
      · rcases g3 w hw with h1 | ⟨q, hq, h1⟩
        · exact .inl h1
        · exact .inr ⟨q, by simp [hq], h1⟩
      · obtain ⟨g5, g6⟩ := g4 hl
        refine ⟨g5, fun q hq hql v hv => ?_⟩
        rcases List.mem_cons.1 hq with rfl | hq
        · exact absurd ⟨by omega, hql⟩ hc
        · exact g6 q hq hql v hv
theorem mineF_is {g : Gr} {ks : List Int} {n lim : Nat} {F : List (List Bool)} {s : Int} {a b : Nat} (hb : b ≤ n) (c : Nat) : MineOk g ks n F s a b (mineF g ks n F lim (s, (a : Int), (b : Int)) c).1 := by
  obtain ⟨g1, g2, g3, g4⟩ := mineL_all (g := g) (ks := ks) (n := n) (lim := lim) (F := F) (k := (s, (a : Int), (b : Int))) (List.range g.rules.length) ([], c) List.nodup_range (by simp) (by simp)
  refine ⟨fun w hw => ?_, g2⟩
  rcases g3 w hw with h | ⟨j, hj, h1, h2, h3⟩
  · cases h
  · simp only [Int.toNat_natCast] at h3
    exact ⟨j, h1, List.mem_range.1 hj, h2, waysF_way _ _ _ _ hb _ h3⟩
theorem mineF_some {g : Gr} {ks : List Int} {N n lim : Nat} {F : List (List Bool)} (hS : Sup g ks N n F) (hl0 : ∀ r ∈ g.rules, 0 ≤ r.left) {s a b : Nat} (hab : a ≤ b) (hb : b ≤ n) (hc : chAt n F s a b = true) {c : Nat} (hm : (mineF g ks n F lim ((s : Int), (a : Int), (b : Int)) c).2 ≤ lim) : (mineF g ks n F lim ((s : Int), (a : Int), (b : Int)) c).1 ≠ [] := by
  obtain ⟨g1, g2, g3, g4⟩ := mineL_all (g := g) (ks := ks) (n := n) (lim := lim) (F := F) (k := ((s : Int), (a : Int), (b : Int))) (List.range g.rules.length) ([], c) List.nodup_range (by simp) (by simp)
  obtain ⟨h1, h2, r, hr, h3, h4⟩ := hS.rule s a b (by omega) hc
  obtain ⟨j, hj, hjr⟩ := List.getElem_of_mem hr
  have hra : ruleAt g (j : Int) = r := by unfold ruleAt; rw [Int.toNat_natCast, List.getD_eq_getElem?_getD, List.getElem?_eq_getElem hj, hjr]; rfl
  have h5 := waysF_some (ks := ks) (n := n) (F := F) r.right a b lim (by omega) hb h4
  obtain ⟨v, hv⟩ := List.exists_mem_of_ne_nil _ h5
  have := hl0 r hr
  have h6 := (g4 hm).2 j (List.mem_range.2 hj) (by rw [hra]; show r.left = (s : Int); omega) v (by rw [hra]; simpa using hv)
  intro e
  unfold mineF at e
  rw [e] at h6
  cases h6

/-! ### the queue -/
theorem newS_pre (x : List Ky × Nat) (y : Ky) : x.1 <+: (newS x y).1 ∧ x.2 ≤ (newS x y).2 ∧ (0 ≤ y.1 → y ∈ (newS x y).1) ∧ ∀ k ∈ (newS x y).1, k ∈ x.1 ∨ k = y ∧ 0 ≤ y.1 := by
  unfold newS
  split
  · rename_i h
    refine ⟨⟨[y], rfl⟩, by simp, fun _ => by simp, fun k hk => ?_⟩
    rcases List.mem_append.1 hk with h1 | h1
    · exact .inl h1
    · exact .inr ⟨List.mem_singleton.1 h1, h.1⟩
  · rename_i h
    refine ⟨List.prefix_rfl, Nat.le_refl _, fun h0 => ?_, fun k hk => .inl hk⟩
    apply Classical.byContradiction
    intro hn
    exact h ⟨h0, findF_neg.2 hn⟩
theorem newL_pre : ∀ (l : List Ky) (x : List Ky × Nat), x.1 <+: (l.foldl newS x).1 ∧ x.2 ≤ (l.foldl newS x).2 ∧ (∀ y ∈ l, 0 ≤ y.1 → y ∈ (l.foldl newS x).1) ∧ ∀ k ∈ (l.foldl newS x).1, k ∈ x.1 ∨ k ∈ l ∧ 0 ≤ k.1
  | [], x => ⟨List.prefix_rfl, Nat.le_refl _, by simp, fun k hk => .inl hk⟩
  | y :: l, x => by
    obtain ⟨a1, a2, a3, a4⟩ := newS_pre x y
    obtain ⟨b1, b2, b3, b4⟩ := newL_pre l (newS x y)
    rw [List.foldl_cons]
    refine ⟨a1.trans b1, Nat.le_trans a2 b2, fun z hz h0 => ?_, fun k hk => ?_⟩
    · rcases List.mem_cons.1 hz with rfl | hz
      · exact b1.subset (a3 h0)
      · exact b3 z hz h0
    · rcases b4 k hk with h | h
      · rcases a4 k h with h | ⟨rfl, h⟩
        · exact .inl h
        · exact .inr ⟨by simp, h⟩
      · exact .inr ⟨by simp [h.1], h.2⟩
theorem newM_pre (lim : Nat) : ∀ (m : List Wy) (x : List Ky × Nat), x.1 <+: (m.foldl (newW lim) x).1 ∧ x.2 ≤ (m.foldl (newW lim) x).2 ∧ ((m.foldl (newW lim) x).2 ≤ lim → ∀ w ∈ m, ∀ y ∈ w.2, 0 ≤ y.1 → y ∈ (m.foldl (newW lim) x).1) ∧ ∀ k ∈ (m.foldl (newW lim) x).1, k ∈ x.1 ∨ 0 ≤ k.1 ∧ ∃ w ∈ m, k ∈ w.2
  | [], x => ⟨List.prefix_rfl, Nat.le_refl _, fun _ => by simp, fun k hk => .inl hk⟩
  | w :: m, x => by
    obtain ⟨b1, b2, b3, b4⟩ := newM_pre lim m (newW lim x w)
    rw [List.foldl_cons]
    by_cases hx : x.2 ≤ lim
    · have he : newW lim x w = w.2.foldl newS x := by unfold newW; rw [if_pos hx]
      obtain ⟨a1, a2, a3, a4⟩ := newL_pre w.2 x
      rw [← he] at a1 a2 a3 a4
      refine ⟨a1.trans b1, Nat.le_trans a2 b2, fun hl v hv y hy h0 => ?_, fun k hk => ?_⟩
      · rcases List.mem_cons.1 hv with rfl | hv
        · exact b1.subset (a3 y hy h0)
        · exact b3 hl v hv y hy h0
      · rcases b4 k hk with h | ⟨h0, v, hv, h⟩
        · rcases a4 k h with h | h
          · exact .inl h
          · exact .inr ⟨h.2, w, by simp, h.1⟩
        · exact .inr ⟨h0, v, by simp [hv], h⟩
    · have he : newW lim x w = x := by unfold newW; rw [if_neg hx]
      rw [he] at b1 b2 b3 b4 ⊢
      refine ⟨b1, b2, fun hl => absurd (Nat.le_trans b2 hl) hx, fun k hk => ?_⟩
      rcases b4 k hk with h | ⟨h0, v, hv, h⟩
      · exact .inl h
      · exact .inr ⟨h0, v, by simp [hv], h⟩
/-- What the queue holds of its first i keys. -/
def QOk (g : Gr) (ks : List Int) (n : Nat) (F : List (List Bool)) (lim i : Nat) (keys : List Ky) (all : List (List Wy)) : Prop := all.length = i ∧ ∀ j, j < i → ∃ k c, keys[j]? = some k ∧ (mineF g ks n F lim k c).2 ≤ lim ∧ all[j]? = some (mineF g ks n F lim k c).1 ∧ ∀ w ∈ (mineF g ks n F lim k c).1, ∀ y ∈ w.2, 0 ≤ y.1 → y ∈ keys
theorem bldQ_spec {g : Gr} {ks : List Int} {N n lim : Nat} {F : List (List Bool)} (hN : g.names = N) (hsy : ∀ r ∈ g.rules, ∀ s ∈ r.right, isSym g s) : ∀ (q i : Nat) (keys : List Ky) (all : List (List Wy)) (c : Nat) {K : List Ky} {A : List (List Wy)}, bldQ g ks n F lim q i keys all c = some (K, A) → QOk g ks n F lim i keys all → i ≤ keys.length → (∀ k ∈ keys, KyN N n F k) → keys <+: K ∧ QOk g ks n F lim K.length K A ∧ ∀ k ∈ K, KyN N n F k
  | 0, i, keys, all, c, K, A, h, _, _, _ => by simp [bldQ] at h
  | q + 1, i, keys, all, c, K, A, h, hq, hi, hk => by
    rw [bldQ] at h
    cases hki : keys[i]? with
    | none =>
      rw [hki] at h
      simp only [Option.some.injEq, Prod.mk.injEq] at h
      obtain ⟨rfl, rfl⟩ := h
      have : keys.length ≤ i := List.getElem?_eq_none_iff.1 hki
      have : i = keys.length := by omega
      subst this
      exact ⟨List.prefix_rfl, hq, hk⟩
    | some k =>
      rw [hki] at h
      simp only at h
      have hil : i < keys.length := (List.getElem?_eq_some_iff.1 hki).1
      have hkk := hk k (List.mem_of_getElem? hki)
      have hky : ∀ w ∈ (mineF g ks n F lim k c).1, ∀ y ∈ w.2, 0 ≤ y.1 → KyN N n F y := by
        obtain ⟨s, a, b, h1, h2, h3, rfl, h4⟩ := hkk
        intro w hw y hy h0
        obtain ⟨j, g1, g2, g3, g4⟩ := (mineF_is (lim := lim) h3 c).way w hw
        have hrm := List.mem_of_getElem? (ruleAt_at (g := g) (i := (j : Int)) (by omega) (by omega))
        rcases way_ky hN (hsy _ hrm) g4 y hy with ⟨t, _, rfl⟩ | h
        · simp at h0
        · exact h
      obtain ⟨p1, p2, p3, p4⟩ := newM_pre lim (mineF g ks n F lim k c).1 (keys, (mineF g ks n F lim k c).2)
      split at h
      · cases h
      · rename_i hle
        generalize ((mineF g ks n F lim k c).1.foldl (newW lim) (keys, (mineF g ks n F lim k c).2)) = z at *
        have hle : z.2 ≤ lim := by omega
        have hle2 : (mineF g ks n F lim k c).2 ≤ lim := Nat.le_trans p2 hle
        have hpl := p1.length_le
        simp only at hpl
        obtain ⟨r1, r2, r3⟩ := bldQ_spec hN hsy q (i + 1) z.1 (all ++ [(mineF g ks n F lim k c).1]) z.2 h ⟨by simp [hq.1], fun j hj => by
          by_cases hji : j < i
          · obtain ⟨k', c', e1, e2, e3, e4⟩ := hq.2 j hji
            refine ⟨k', c', ?_, e2, ?_, fun w hw y hy h0 => p1.subset (e4 w hw y hy h0)⟩
            · obtain ⟨t, ht⟩ := p1
              rw [← ht, List.getElem?_append_left (List.getElem?_eq_some_iff.1 e1).1]; exact e1
            · rw [List.getElem?_append_left (by rw [hq.1]; exact hji)]; exact e3
          · have : j = i := by omega
            subst this
            refine ⟨k, c, ?_, hle2, ?_, p3 hle⟩
            · obtain ⟨t, ht⟩ := p1
              rw [← ht, List.getElem?_append_left hil]; exact hki
            · rw [List.getElem?_append_right (by rw [hq.1]; exact Nat.le_refl _), hq.1, Nat.sub_self]; rfl⟩ (by omega) (fun k' hk' => by
          rcases p4 k' hk' with h1 | ⟨h0, w, hw, h1⟩
          · exact hk k' h1
          · exact hky w hw k' h1 h0)
        exact ⟨p1.trans r1, r2, r3⟩
end Go.Proofs.Ytnlmfhnjjblhoaa.Ab
/- The forest that chapter 19's reference builds, in plain terms: its nodes, that it has no ring, its trees. No condition. -/
set_option linter.unusedVariables false
set_option linter.unusedSimpArgs false
namespace Go.Proofs.Ytnlmfhnjjblhoaa.Ab

theorem buildF_some {g : Gr} {ks : List Int} {N lim : Nat} {f : Fo} (fo : FormOk g N) (hN : g.names = N) (h : (buildF g ks lim).1 = some f) : ∃ K A, f = bldF K A ∧ QOk g ks ks.length (chF g ks N ks.length) lim K.length K A ∧ (∀ k ∈ K, KyN N ks.length (chF g ks N ks.length) k) ∧ K[0]? = some (g.start, (0 : Int), (ks.length : Int)) := by
  have hNN : g.names.toNat = N := by omega
  unfold buildF at h
  rw [hNN] at h
  generalize hF : chF g ks N ks.length = F at *
  split at h
  · cases h
  · rename_i hh
    have hh : hasF N ks.length F g.start 0 ks.length = true := by simpa using hh
    have hst := fo.st
    unfold isName at hst
    cases hq : bldQ g ks ks.length F lim (lim + 2) 0 [(g.start, 0, (ks.length : Int))] [] 1 with
    | none => rw [hq] at h; cases h
    | some x =>
      rw [hq] at h
      obtain ⟨K, A⟩ := x
      obtain ⟨h1, h2, h3⟩ := bldQ_spec hN fo.sym _ _ _ _ _ hq ⟨rfl, fun j hj => absurd hj (by omega)⟩ (by simp) (by
        intro k hk
        rw [List.mem_singleton.1 hk]
        unfold hasF at hh
        simp only [Bool.and_eq_true] at hh
        exact ⟨g.start.toNat, 0, ks.length, by omega, by omega, Nat.le_refl _, by rw [Int.toNat_of_nonneg hst.1]; rfl, by simpa using hh.2⟩)
      refine ⟨K, A, (Option.some.inj h).symm, h2, h3, ?_⟩
      obtain ⟨t, ht⟩ := h1
      rw [← ht]; rfl

theorem insK_perm {α : Type} (lt : α → α → Bool) (x : α) : ∀ l : List α, (insK lt x l).Perm (x :: l)
  | [] => List.Perm.refl _
  | y :: l => by
    unfold insK
    split
    · exact ((insK_perm lt x l).cons y).trans (List.Perm.swap x y l)
    · exact List.Perm.refl _
theorem sortL_perm {α : Type} (lt : α → α → Bool) : ∀ (l out : List α), (l.foldl (fun out x => insK lt x out) out).Perm (out ++ l)
  | [], out => by simp
  | x :: l, out => by
    rw [List.foldl_cons]
    refine (sortL_perm lt l _).trans ?_
    refine ((insK_perm lt x out).append_right l).trans ?_
    exact (List.perm_middle (l₁ := out) (l₂ := l) (a := x)).symm
theorem sortK_perm {α : Type} (lt : α → α → Bool) (l : List α) : (sortK lt l).Perm l := by
  unfold sortK
  simpa using sortL_perm lt l []

/-- A node of the forest, by its key. -/
structure NodeIs (g : Gr) (ks : List Int) (N n : Nat) (F : List (List Bool)) (o : List Ky) (f : Fo) (i s a b : Nat) (m : List Wy) : Prop where
  key : o[i]? = some ((s : Int), (a : Int), (b : Int))
  sN : s < N
  ab : a ≤ b
  bn : b ≤ n
  mine : MineOk g ks n F s a b m
  some : m ≠ []
  kids : ∀ w ∈ m, ∀ y ∈ w.2, 0 ≤ y.1 → y ∈ o
  alts : altsOf f i = sortK lowF (m.map (altN o))
theorem node_is {g : Gr} {ks : List Int} {N n lim : Nat} {F : List (List Bool)} {K : List Ky} {A : List (List Wy)} (hS : Sup g ks N n F) (hl0 : ∀ r ∈ g.rules, 0 ≤ r.left) (hq : QOk g ks n F lim K.length K A) (hK : ∀ k ∈ K, KyN N n F k) {i : Nat} {k : Ky} (hi : (sortK aheadF K)[i]? = some k) : ∃ (s a b : Nat) (m : List Wy), k = ((s : Int), (a : Int), (b : Int)) ∧ NodeIs g ks N n F (sortK aheadF K) (bldF K A) i s a b m := by
  have hkK : k ∈ K := sortK_mem.1 (List.mem_of_getElem? hi)
  obtain ⟨s, a, b, h1, h2, h3, rfl, h4⟩ := hK k hkK
  obtain ⟨g1, g2, g3⟩ := findF_at hkK
  obtain ⟨k', c, e1, e2, e3, e4⟩ := hq.2 (findF ((s : Int), (a : Int), (b : Int)) K 0).toNat (by omega)
  rw [g1] at e1
  cases e1
  refine ⟨s, a, b, _, rfl, hi, h1, h2, h3, mineF_is h3 c, mineF_some hS hl0 h2 h3 h4 e2, fun w hw y hy h0 => sortK_mem.2 (e4 w hw y hy h0), ?_⟩
  unfold altsOf bldF
  simp only
  rw [List.getElem?_map, hi]
  simp only [Option.map_some, Option.getD_some]
  unfold nodeN
  simp only
  rw [List.getD_eq_getElem?_getD (l := A), e3]
  rfl
theorem way_split {ks : List Int} {n : Nat} {F : List (List Bool)} : ∀ {l : List Int} {fr to : Nat} {w : List Ky}, WayOk ks n F l fr to w → ∀ y ∈ w, ∃ l1 s l2 a b, l = l1 ++ s :: l2 ∧ b ≤ n ∧ Chn ks n F l1 fr a ∧ link ks n F s a b = true ∧ Chn ks n F l2 b to ∧ y = kyOf s a b
  | [], fr, to, w, ⟨h, _⟩, y, hy => by subst h; cases hy
  | s :: l, fr, to, w, ⟨j, w', hw, h1, h2, h3⟩, y, hy => by
    subst hw
    rcases List.mem_cons.1 hy with rfl | hy
    · refine ⟨[], s, l, fr, j, rfl, h1, rfl, h2, ?_, rfl⟩
      have : ∀ {l : List Int} {fr to : Nat} {w : List Ky}, WayOk ks n F l fr to w → Chn ks n F l fr to := by
        intro l
        induction l with
        | nil => intro fr to w h; exact h.2
        | cons s l ih => intro fr to w ⟨j, w', _, h1, h2, h3⟩; exact ⟨j, h1, h2, ih h3⟩
      exact this h3
    · obtain ⟨l1, t, l2, a, b, e, q1, q2, q3, q4, q5⟩ := way_split h3 y hy
      exact ⟨s :: l1, t, l2, a, b, by rw [e]; rfl, q1, ⟨j, h1, h2, q2⟩, q3, q4, q5⟩
theorem alone_of {null : List Bool} {g : Gr} {l1 l2 : List Int} {s : Int} (h1 : emptyF g null l1 = true) (h2 : emptyF g null l2 = true) (hs : 0 ≤ s) : aloneT null (l1 ++ s :: l2) l1.length (l1 ++ s :: l2).length = true := by
  unfold aloneT
  rw [Bool.and_eq_true]
  constructor
  · rw [List.getD_eq_getElem?_getD, List.getElem?_append_right (Nat.le_refl _), Nat.sub_self]
    exact decide_eq_true hs
  · rw [List.all_eq_true]
    intro q hq
    have hq := List.mem_range.1 hq
    rw [List.length_append, List.length_cons] at hq
    have hx : ∀ (l : List Int) (p : Nat), emptyF g null l = true → p < l.length → (decide (0 ≤ l.getD p 0) && null.getD (l.getD p 0).toNat false) = true := by
      intro l p h hp
      unfold emptyF at h
      rw [List.all_eq_true] at h
      have := h (l.getD p 0) (by rw [List.getD_eq_getElem?_getD, List.getElem?_eq_getElem hp]; exact List.getElem_mem hp)
      simp only [Bool.and_eq_true, decide_eq_true_eq] at this ⊢
      have h2 := this.1
      unfold isName at h2
      exact ⟨h2.1, this.2⟩
    rcases Nat.lt_trichotomy q l1.length with h | h | h
    · have e : (l1 ++ s :: l2).getD q 0 = l1.getD q 0 := by rw [List.getD_eq_getElem?_getD, List.getElem?_append_left h, ← List.getD_eq_getElem?_getD]
      rw [e, hx l1 q h1 h, Bool.or_true]
    · subst h; simp
    · have e : (l1 ++ s :: l2).getD q 0 = l2.getD (q - l1.length - 1) 0 := by
        rw [List.getD_eq_getElem?_getD, List.getElem?_append_right (by omega), show q - l1.length = (q - l1.length - 1) + 1 by omega, List.getElem?_cons_succ, ← List.getD_eq_getElem?_getD]
        rfl
      rw [e, hx l2 _ h2 (by omega), Bool.or_true]
/-- What a kid's key is to the node's: within it, and shorter or of a lower rank. -/
theorem kid_less {g : Gr} {ks : List Int} {N n k : Nat} {F : List (List Bool)} (fo : FormOk g N) (hN : g.names = N) (hk : N = k + 1) (hc : (cycF g N).any id = false) (hS : Sup g ks N n F) {r : Ru} (hr : r ∈ g.rules) {s a b : Nat} (hs : r.left = s) (hb : b ≤ n) {w : List Ky} (hw : WayOk ks n F r.right a b w) : ∀ y ∈ w, 0 ≤ y.1 → ∃ t a' b' : Nat, y = ((t : Int), (a' : Int), (b' : Int)) ∧ a ≤ a' ∧ a' ≤ b' ∧ b' ≤ b ∧ (b' - a' < b - a ∨ b' - a' = b - a ∧ rank g N t < rank g N s) := by
  intro y hy h0
  obtain ⟨l1, t, l2, a', b', e, q1, q2, q3, q4, rfl⟩ := way_split hw y hy
  have ht : isSym g t := fo.sym r hr t (by rw [e]; simp)
  have o1 := chn_le q2
  have o2 := chn_le q4
  have o3 := link_le q3
  rcases kyOf_is hN ht q1 q3 with ⟨_, _, _, _, h⟩ | ⟨t', rfl, h1, h2, h3, h⟩
  · rw [h] at h0; simp at h0
  · rw [h]
    refine ⟨t', a', b', rfl, o1, o3, o2, ?_⟩
    by_cases hlt : b' - a' < b - a
    · exact .inl hlt
    · obtain rfl : a = a' := by omega
      obtain rfl : b = b' := by omega
      have e1 := chn_null hS (by omega) (fun t ht => fo.sym r hr t (by rw [e]; simp [ht])) q2
      have e2 := chn_null hS hb (fun t ht => fo.sym r hr t (by rw [e]; simp [ht])) q4
      have hal := alone_of e1 e2 h0
      have hlt2 : ∀ r ∈ g.rules, r.left.toNat < N := fun r hr => by have := fo.left r hr; unfold isName at this; omega
      have := rank_fall hk hlt2 fo.sym hN hc r hr l1.length (by rw [e]; simp) (by rw [e]; exact alone_of e1 e2 (by omega))
      rw [e, List.getD_eq_getElem?_getD, List.getElem?_append_right (Nat.le_refl _), Nat.sub_self] at this
      simp only [List.getElem?_cons_zero, Option.getD_some, Int.toNat_natCast, hs] at this
      exact .inr ⟨rfl, this⟩

/-- All that is known of a forest that Build makes. -/
structure Blt (g : Gr) (ks : List Int) (N : Nat) (F : List (List Bool)) (o : List Ky) (f : Fo) : Prop where
  fo : FormOk g N
  hN : g.names = N
  cyc : (cycF g N).any id = false
  sup : Sup g ks N ks.length F
  len : f.nodes.length = o.length
  node : ∀ i k, o[i]? = some k → ∃ (s a b : Nat) (m : List Wy), k = ((s : Int), (a : Int), (b : Int)) ∧ NodeIs g ks N ks.length F o f i s a b m
  root : ∃ r : Nat, f.root = r ∧ o[r]? = some (g.start, (0 : Int), (ks.length : Int))
theorem blt_of {g : Gr} {ks : List Int} {N lim : Nat} {f : Fo} (hc : chkF g = 0) (hN : g.names = N) (h : (buildF g ks lim).1 = some f) : ∃ F o, Blt g ks N F o f := by
  have hform : (formF g).2 = 0 := by
    unfold chkF at hc
    split at hc
    · rename_i h1; exact absurd hc h1
    · rename_i h1; exact Classical.not_not.1 h1
  obtain ⟨fo, hN'⟩ := form_ok hform
  have hNN : g.names.toNat = N := by omega
  rw [hNN] at fo
  have hcyc : (cycF g N).any id = false := by
    unfold chkF at hc
    rw [if_neg (by simp [hform]), hNN] at hc
    split at hc
    · cases hc
    · split at hc
      · cases hc
      · rename_i h1; simpa using h1
  have hlt : ∀ r ∈ g.rules, r.left.toNat < N := fun r hr => by have := fo.left r hr; unfold isName at this; omega
  have hl0 : ∀ r ∈ g.rules, 0 ≤ r.left := fun r hr => by have := fo.left r hr; unfold isName at this; omega
  obtain ⟨K, A, rfl, hq, hK, hr⟩ := buildF_some fo hN h
  have hS := chF_sup (ks := ks) (n := ks.length) fo.sym hlt
  refine ⟨_, sortK aheadF K, fo, hN, hcyc, hS, by simp [bldF], fun i k hi => node_is hS hl0 hq hK hi, ?_⟩
  have hrm : (g.start, (0 : Int), (ks.length : Int)) ∈ sortK aheadF K := sortK_mem.2 (List.mem_of_getElem? hr)
  obtain ⟨h1, h2, h3⟩ := findF_at hrm
  refine ⟨(findF (g.start, (0 : Int), (ks.length : Int)) (sortK aheadF K) 0).toNat, ?_, h1⟩
  unfold bldF
  simp only
  rw [List.getD_eq_getElem?_getD, hr, Option.getD_some]
  omega
theorem blt_kid {g : Gr} {ks : List Int} {N : Nat} {F : List (List Bool)} {o : List Ky} {f : Fo} (B : Blt g ks N F o f) {i s a b : Nat} {m : List Wy} (hn : NodeIs g ks N ks.length F o f i s a b m) {k : Int} (hk : Kid f i k) : k < o.length ∧ (0 ≤ k → ∃ t a' b' : Nat, o[k.toNat]? = some ((t : Int), (a' : Int), (b' : Int)) ∧ (b' - a') * (N + 1) + rank g N t < (b - a) * (N + 1) + rank g N s) := by
  obtain ⟨al, hal, hm⟩ := hk
  rw [hn.alts] at hal
  obtain ⟨w, hw, rfl⟩ := List.mem_map.1 (sortK_mem.1 hal)
  obtain ⟨y, hy, rfl⟩ := List.mem_map.1 hm
  have ho : 0 < o.length := by have := (List.getElem?_eq_some_iff.1 hn.key).1; omega
  obtain ⟨j, h1, h2, h3, h4⟩ := hn.mine.way w hw
  have hrm := List.mem_of_getElem? (ruleAt_at (g := g) (i := (j : Int)) (by omega) (by omega))
  unfold kidN
  split
  · rename_i hy0
    rcases way_ky B.hN (B.fo.sym _ hrm) h4 y hy with ⟨t, _, rfl⟩ | ⟨t, a', b', _, _, _, rfl, _⟩
    · simp only; omega
    · simp only at hy0; omega
  · rename_i hy0
    have hy0 : 0 ≤ y.1 := by omega
    have hyo := hn.kids w hw y hy hy0
    obtain ⟨e1, e2, e3⟩ := findF_at hyo
    refine ⟨e3, fun _ => ?_⟩
    obtain ⟨N', hN'⟩ : ∃ N', N = N' + 1 := ⟨N - 1, by have := B.fo.n0; omega⟩
    obtain ⟨t, a', b', rfl, g1, g2, g3, g4⟩ := kid_less B.fo B.hN hN' B.cyc B.sup hrm h3 hn.bn h4 y hy hy0
    refine ⟨t, a', b', e1, ?_⟩
    rcases g4 with g4 | ⟨g4, g5⟩
    · have := rank_le g N t
      have h5 : (b' - a' + 1) * (N + 1) ≤ (b - a) * (N + 1) := Nat.mul_le_mul_right _ g4
      rw [Nat.add_mul, Nat.one_mul] at h5
      omega
    · rw [g4]; omega
theorem blt_wf {g : Gr} {ks : List Int} {N : Nat} {F : List (List Bool)} {o : List Ky} {f : Fo} (B : Blt g ks N F o f) : ∀ (q i s a b : Nat), o[i]? = some ((s : Int), (a : Int), (b : Int)) → (b - a) * (N + 1) + rank g N s < q → WF f i
  | 0, i, s, a, b, _, h => absurd h (by omega)
  | q + 1, i, s, a, b, hi, h => by
    obtain ⟨s', a', b', m, e, hn⟩ := B.node i _ hi
    simp only [Prod.mk.injEq] at e
    obtain ⟨rfl, rfl, rfl⟩ : s = s' ∧ a = a' ∧ b = b' := by omega
    refine .mk (by rw [B.len]; exact (List.getElem?_eq_some_iff.1 hi).1) (fun k hk => by rw [B.len]; exact (blt_kid B hn hk).1) (fun k hk => ?_)
    obtain ⟨t, a', b', h1, h2⟩ := (blt_kid B hn hk).2 (by omega)
    exact blt_wf B q k t a' b' (by simpa using h1) (by omega)
theorem blt_all {g : Gr} {ks : List Int} {N : Nat} {F : List (List Bool)} {o : List Ky} {f : Fo} (B : Blt g ks N F o f) {i : Nat} (hi : i < f.nodes.length) : WF f i := by
  rw [B.len] at hi
  obtain ⟨s, a, b, m, e, hn⟩ := B.node i _ (List.getElem?_eq_getElem hi)
  exact blt_wf B _ i s a b hn.key (Nat.lt_succ_self _)
theorem blt_form {g : Gr} {ks : List Int} {N : Nat} {F : List (List Bool)} {o : List Ky} {f : Fo} (B : Blt g ks N F o f) : FForm f := by
  obtain ⟨r, h1, h2⟩ := B.root
  have := (List.getElem?_eq_some_iff.1 h2).1
  exact ⟨⟨by omega, by rw [h1, B.len]; omega⟩, fun i hi => blt_all B hi⟩
end Go.Proofs.Ytnlmfhnjjblhoaa.Ab
/- The trees of the forest that chapter 19's reference builds: each is one of its symbol, there is one, and no two are alike. No condition. -/
set_option linter.unusedVariables false
set_option linter.unusedSimpArgs false
namespace Go.Proofs.Ytnlmfhnjjblhoaa.Ab

/-- The tokens from a place to another. -/
def span (a b : Nat) : List Int := (List.range' a (b - a)).map fun (i : Nat) => (i : Int)
theorem span_len (a b : Nat) : (span a b).length = b - a := by simp [span]
theorem span_nil (a : Nat) : span a a = [] := by simp [span]
theorem span_one (a : Nat) : span a (a + 1) = [(a : Int)] := by simp [span, show a + 1 - a = 1 by omega]
theorem span_app {a j b : Nat} (h1 : a ≤ j) (h2 : j ≤ b) : span a j ++ span j b = span a b := by
  unfold span
  rw [← List.map_append]
  congr 1
  have := List.range'_append_1 (s := a) (m := j - a) (n := b - j)
  rw [show a + (j - a) = j by omega, show j - a + (b - j) = b - a by omega] at this
  exact this
/-- A tree is one of a symbol. -/
inductive Dv (g : Gr) (ks : List Int) : Int → Tr → Prop
  | leaf {s : Int} {i : Nat} (h0 : s < 0) (hi : i < ks.length) (hk : ks.getD i 0 = -1 - s) : Dv g ks s (.mk (-1) (i : Int) [])
  | node {j : Nat} {kids : List Tr} (hj : j < g.rules.length) (h0 : 0 ≤ (ruleAt g (j : Int)).left) (hl : kids.length = (ruleAt g (j : Int)).right.length) (hk : ∀ (q : Nat) (t : Tr), kids[q]? = some t → Dv g ks ((ruleAt g (j : Int)).right.getD q 0) t) : Dv g ks (ruleAt g (j : Int)).left (.mk (j : Int) 0 kids)
theorem head_is {g : Gr} {ks : List Int} {N : Nat} {F : List (List Bool)} {o : List Ky} {f : Fo} {s : Int} {fr j : Nat} (hN : g.names = N) (hs : isSym g s) (hj : j ≤ ks.length) (hl : link ks ks.length F s fr j = true) (hko : 0 ≤ (kyOf s fr j).1 → kyOf s fr j ∈ o)
    (ih : ∀ t a b : Nat, kyOf s fr j = ((t : Int), (a : Int), (b : Int)) → ∀ x ∈ trL f (findF (kyOf s fr j) o 0).toNat, Dv g ks t x ∧ yieldF x = span a b) {x : Tr} (hx : x ∈ (if 0 ≤ kidN o (kyOf s fr j) then trL f (kidN o (kyOf s fr j)).toNat else [leafT (kidN o (kyOf s fr j))])) : Dv g ks s x ∧ yieldF x = span fr j ∧ fr ≤ j := by
  rcases kyOf_is hN hs hj hl with ⟨h1, rfl, h3, h4, h⟩ | ⟨t, rfl, h1, h2, h3, h⟩
  · rw [h] at hx
    have hk : kidN o (-1, (fr : Int), ((fr + 1 : Nat) : Int)) = -1 - (fr : Int) := by unfold kidN; rw [if_pos (by simp)]
    rw [hk, if_neg (by omega)] at hx
    have hx := List.mem_singleton.1 hx
    have : leafT (-1 - (fr : Int)) = .mk (-1) (fr : Int) [] := by unfold leafT; congr 1; omega
    rw [this] at hx
    subst hx
    exact ⟨.leaf h1 h3 h4, by rw [yieldF_eq, span_one]; rfl, by omega⟩
  · have ho := hko (by rw [h]; simp only; omega)
    have hf := findF_at ho
    have hk : kidN o (kyOf ((t : Nat) : Int) fr j) = findF (kyOf ((t : Nat) : Int) fr j) o 0 := by unfold kidN; rw [if_neg (by rw [h]; simp only; omega)]
    rw [hk, if_pos hf.2.1] at hx
    have := ih t fr j h x hx
    exact ⟨this.1, this.2, h2⟩
theorem row_trees {g : Gr} {ks : List Int} {N : Nat} {F : List (List Bool)} {o : List Ky} {f : Fo} (hN : g.names = N) : ∀ {l : List Int} {fr to : Nat} {w : List Ky}, (∀ s ∈ l, isSym g s) → WayOk ks ks.length F l fr to w → (∀ y ∈ w, 0 ≤ y.1 → y ∈ o) → (∀ y ∈ w, ∀ t a b : Nat, y = ((t : Int), (a : Int), (b : Int)) → ∀ x ∈ trL f (findF y o 0).toNat, Dv g ks t x ∧ yieldF x = span a b) →
    ∀ out ∈ prodL (kidsL (trL f) (w.map (kidN o))), fr ≤ to ∧ out.length = l.length ∧ yieldsF out = span fr to ∧ ∀ (q : Nat) (t : Tr), out[q]? = some t → Dv g ks (l.getD q 0) t
  | [], fr, to, w, _, ⟨h1, h2⟩, _, _, out, hout => by
    subst h1; subst h2
    have : out = [] := by simpa [kidsL, prodL] using hout
    subst this
    exact ⟨Nat.le_refl _, rfl, by rw [span_nil]; rfl, by simp⟩
  | s :: l, fr, to, w, hs, ⟨j, w', hw, h1, h2, h3⟩, hko, ih, out, hout => by
    subst hw
    have e : kidsL (trL f) ((kyOf s fr j :: w').map (kidN o)) = (if 0 ≤ kidN o (kyOf s fr j) then trL f (kidN o (kyOf s fr j)).toNat else [leafT (kidN o (kyOf s fr j))]) :: kidsL (trL f) (w'.map (kidN o)) := rfl
    rw [e, prodL] at hout
    obtain ⟨t, ht, hm⟩ := List.mem_flatMap.1 hout
    obtain ⟨out', ho', rfl⟩ := List.mem_map.1 hm
    obtain ⟨g1, g2, g5⟩ := head_is hN (hs s (by simp)) h1 h2 (hko _ (by simp)) (fun t a b e => ih _ (by simp) t a b e) ht
    obtain ⟨g6, g3, g4, g7⟩ := row_trees hN (fun s hs' => hs s (by simp [hs'])) h3 (fun y hy => hko y (by simp [hy])) (fun y hy => ih y (by simp [hy])) out' ho'
    refine ⟨by omega, by simp [g3], by rw [yieldsF, g2, g4, span_app g5 g6], fun q x hx => ?_⟩
    cases q with
    | zero => simp at hx; subst hx; simpa using g1
    | succ q => simp at hx; simpa using g7 q x hx
theorem kid_in {w : Wy} {o : List Ky} {y : Ky} (hy : y ∈ w.2) (h0 : 0 ≤ y.1) (ho : y ∈ o) : (((findF y o 0).toNat : Nat) : Int) ∈ (altN o w).kids := by
  refine List.mem_map.2 ⟨y, hy, ?_⟩
  have := (findF_at ho).2.1
  unfold kidN
  rw [if_neg (by omega)]
  omega
theorem tree_is {g : Gr} {ks : List Int} {N : Nat} {F : List (List Bool)} {o : List Ky} {f : Fo} (B : Blt g ks N F o f) {i : Nat} (hw : WF f i) : ∀ s a b : Nat, o[i]? = some ((s : Int), (a : Int), (b : Int)) → ∀ x ∈ trL f i, Dv g ks s x ∧ yieldF x = span a b := by
  induction hw with
  | @mk i hi hkn hkw ih =>
  intro s a b hio x hx
  have hwf : WF f i := .mk hi hkn hkw
  obtain ⟨s', a', b', m, e, hn⟩ := B.node i _ hio
  simp only [Prod.mk.injEq] at e
  obtain ⟨rfl, rfl, rfl⟩ : s = s' ∧ a = a' ∧ b = b' := by omega
  rw [trL_eq hwf] at hx
  obtain ⟨al, hal, hx⟩ := List.mem_flatMap.1 hx
  have hal2 := hal
  rw [hn.alts] at hal
  obtain ⟨w, hw, rfl⟩ := List.mem_map.1 (sortK_mem.1 hal)
  obtain ⟨out, hout, rfl⟩ := List.mem_map.1 hx
  obtain ⟨j, h1, h2, h3, h4⟩ := hn.mine.way w hw
  have hrm := List.mem_of_getElem? (ruleAt_at (g := g) (i := (j : Int)) (by omega) (by omega))
  obtain ⟨g0, g1, g2, g3⟩ := row_trees (f := f) B.hN (B.fo.sym _ hrm) h4 (hn.kids w hw) (fun y hy t a' b' e x hx => by
    have h0 : 0 ≤ y.1 := by rw [e]; simp only; omega
    have hyo := hn.kids w hw y hy h0
    exact ih _ ⟨_, hal2, kid_in hy h0 hyo⟩ t a' b' (by rw [← e]; exact (findF_at hyo).1) x hx) out hout
  have e1 : (altN o w).rule = (j : Int) := h1
  rw [e1]
  refine ⟨?_, ?_⟩
  · rw [← h3]
    exact .node h2 (by rw [h3]; omega) g1 g3
  · rw [yieldF_eq]
    have : (Tr.mk (j : Int) 0 out).rule = (j : Int) := rfl
    rw [this, if_neg (by omega)]
    exact g2
theorem prodL_some {α : Type} : ∀ {ls : List (List α)}, (∀ l ∈ ls, l ≠ []) → prodL ls ≠ []
  | [], _ => by simp [prodL]
  | l :: ls, h => by
    obtain ⟨x, hx⟩ := List.exists_mem_of_ne_nil _ (h l (by simp))
    obtain ⟨o, ho⟩ := List.exists_mem_of_ne_nil _ (prodL_some (ls := ls) fun l hl => h l (by simp [hl]))
    rw [prodL]
    exact List.ne_nil_of_mem (List.mem_flatMap.2 ⟨x, hx, List.mem_map.2 ⟨o, ho, rfl⟩⟩)
theorem tree_some {g : Gr} {ks : List Int} {N : Nat} {F : List (List Bool)} {o : List Ky} {f : Fo} (B : Blt g ks N F o f) {i : Nat} (hw : WF f i) : trL f i ≠ [] := by
  induction hw with
  | @mk i hi hkn hkw ih =>
  have hwf : WF f i := .mk hi hkn hkw
  have hio : i < o.length := by rw [← B.len]; exact hi
  obtain ⟨s, a, b, m, e, hn⟩ := B.node i _ (List.getElem?_eq_getElem hio)
  obtain ⟨w, hw⟩ := List.exists_mem_of_ne_nil _ hn.some
  rw [trL_eq hwf]
  have hal : altN o w ∈ altsOf f i := by rw [hn.alts]; exact sortK_mem.2 (List.mem_map.2 ⟨w, hw, rfl⟩)
  have h1 : prodL (kidsL (trL f) (altN o w).kids) ≠ [] := prodL_some fun l hl => by
    obtain ⟨k, hk, rfl⟩ := List.mem_map.1 hl
    split
    · rename_i h0
      exact ih k.toNat ⟨_, hal, by rw [Int.toNat_of_nonneg h0]; exact hk⟩
    · simp
  obtain ⟨x, hx⟩ := List.exists_mem_of_ne_nil _ h1
  exact List.ne_nil_of_mem (List.mem_flatMap.2 ⟨_, hal, List.mem_map.2 ⟨x, hx, rfl⟩⟩)
theorem row_one {g : Gr} {ks : List Int} {N : Nat} {F : List (List Bool)} {o : List Ky} {f : Fo} (hN : g.names = N) : ∀ {l : List Int} {fr to to2 : Nat} {w w2 : List Ky}, (∀ s ∈ l, isSym g s) → WayOk ks ks.length F l fr to w → WayOk ks ks.length F l fr to2 w2 → (∀ y ∈ w ++ w2, 0 ≤ y.1 → y ∈ o) → (∀ y ∈ w ++ w2, ∀ t a b : Nat, y = ((t : Int), (a : Int), (b : Int)) → ∀ x ∈ trL f (findF y o 0).toNat, Dv g ks t x ∧ yieldF x = span a b) →
    ∀ out, out ∈ prodL (kidsL (trL f) (w.map (kidN o))) → out ∈ prodL (kidsL (trL f) (w2.map (kidN o))) → w = w2
  | [], fr, to, to2, w, w2, _, ⟨h1, _⟩, ⟨h2, _⟩, _, _, out, _, _ => by rw [h1, h2]
  | s :: l, fr, to, to2, w, w2, hs, ⟨j, w', hw, h1, h2, h3⟩, ⟨j2, w2', hw2, i1, i2, i3⟩, hko, ih, out, ho1, ho2 => by
    subst hw; subst hw2
    have e1 : kidsL (trL f) ((kyOf s fr j :: w').map (kidN o)) = (if 0 ≤ kidN o (kyOf s fr j) then trL f (kidN o (kyOf s fr j)).toNat else [leafT (kidN o (kyOf s fr j))]) :: kidsL (trL f) (w'.map (kidN o)) := rfl
    have e2 : kidsL (trL f) ((kyOf s fr j2 :: w2').map (kidN o)) = (if 0 ≤ kidN o (kyOf s fr j2) then trL f (kidN o (kyOf s fr j2)).toNat else [leafT (kidN o (kyOf s fr j2))]) :: kidsL (trL f) (w2'.map (kidN o)) := rfl
    rw [e1, prodL] at ho1
    rw [e2, prodL] at ho2
    obtain ⟨t, ht, hm⟩ := List.mem_flatMap.1 ho1
    obtain ⟨out', ho', rfl⟩ := List.mem_map.1 hm
    obtain ⟨t2, ht2, hm2⟩ := List.mem_flatMap.1 ho2
    obtain ⟨out2, ho2', e3⟩ := List.mem_map.1 hm2
    simp only [List.cons.injEq] at e3
    obtain ⟨rfl, rfl⟩ := e3
    obtain ⟨_, g2, g5⟩ := head_is hN (hs s (by simp)) h1 h2 (hko _ (by simp)) (fun t a b e => ih _ (by simp) t a b e) ht
    obtain ⟨_, g3, g6⟩ := head_is hN (hs s (by simp)) i1 i2 (hko _ (by simp)) (fun t a b e => ih _ (by simp) t a b e) ht2
    have hl : (span fr j).length = (span fr j2).length := by rw [← g2, ← g3]
    rw [span_len, span_len] at hl
    obtain rfl : j = j2 := by omega
    rw [row_one hN (fun s hs' => hs s (by simp [hs'])) h3 i3 (fun y hy => hko y (by rcases List.mem_append.1 hy with h | h <;> simp [h])) (fun y hy => ih y (by rcases List.mem_append.1 hy with h | h <;> simp [h])) out2 ho' ho2']
theorem prodL_nodup {α : Type} : ∀ {ls : List (List α)}, (∀ l ∈ ls, l.Nodup) → (prodL ls).Nodup
  | [], _ => by simp [prodL]
  | l :: ls, h => by
    rw [prodL]
    unfold List.Nodup
    rw [List.pairwise_flatMap]
    refine ⟨fun x _ => nodup_on (fun a _ b _ e => by simpa using e) (prodL_nodup fun l hl => h l (by simp [hl])), ?_⟩
    refine List.Pairwise.imp ?_ (h l (by simp))
    intro x y hne p hp q hq e
    obtain ⟨_, _, rfl⟩ := List.mem_map.1 hp
    obtain ⟨_, _, rfl⟩ := List.mem_map.1 hq
    simp only [List.cons.injEq] at e
    exact hne e.1
theorem tree_one {g : Gr} {ks : List Int} {N : Nat} {F : List (List Bool)} {o : List Ky} {f : Fo} (B : Blt g ks N F o f) {i : Nat} (hw : WF f i) : (trL f i).Nodup := by
  induction hw with
  | @mk i hi hkn hkw ih =>
  have hwf : WF f i := .mk hi hkn hkw
  have hio : i < o.length := by rw [← B.len]; exact hi
  obtain ⟨s, a, b, m, e, hn⟩ := B.node i _ (List.getElem?_eq_getElem hio)
  have hkt : ∀ w ∈ m, ∀ y ∈ w.2, ∀ t a b : Nat, y = ((t : Int), (a : Int), (b : Int)) → ∀ x ∈ trL f (findF y o 0).toNat, Dv g ks t x ∧ yieldF x = span a b := by
    intro w hw y hy t a' b' e x hx
    have h0 : 0 ≤ y.1 := by rw [e]; simp only; omega
    have hyo := hn.kids w hw y hy h0
    have hal : altN o w ∈ altsOf f i := by rw [hn.alts]; exact sortK_mem.2 (List.mem_map.2 ⟨w, hw, rfl⟩)
    exact tree_is B (hkw _ ⟨_, hal, kid_in hy h0 hyo⟩) t a' b' (by rw [← e]; exact (findF_at hyo).1) x hx
  rw [trL_eq hwf]
  unfold nodeL
  rw [hn.alts]
  have hp : ((sortK lowF (m.map (altN o))).flatMap (altL (trL f))).Perm ((m.map (altN o)).flatMap (altL (trL f))) := (sortK_perm lowF _).flatMap_right _
  rw [hp.nodup_iff]
  unfold List.Nodup
  rw [List.pairwise_flatMap]
  constructor
  · intro al hal
    have hal2 : al ∈ altsOf f i := by rw [hn.alts]; exact sortK_mem.2 hal
    refine nodup_on (fun a _ b _ e => by simpa using e) (prodL_nodup fun l hl => ?_)
    obtain ⟨k, hk, rfl⟩ := List.mem_map.1 hl
    split
    · rename_i h0
      exact ih k.toNat ⟨_, hal2, by rw [Int.toNat_of_nonneg h0]; exact hk⟩
    · simp
  · rw [List.pairwise_map]
    refine List.Pairwise.imp_of_mem ?_ hn.mine.one
    intro w w2 hw hw2 hne x hx y hy e
    subst e
    obtain ⟨out, ho, rfl⟩ := List.mem_map.1 hx
    obtain ⟨out2, ho2, e3⟩ := List.mem_map.1 hy
    simp only [Tr.mk.injEq, true_and] at e3
    obtain ⟨e4, rfl⟩ := e3
    obtain ⟨j, h1, h2, h3, h4⟩ := hn.mine.way w hw
    obtain ⟨j2, i1, i2, i3, i4⟩ := hn.mine.way w2 hw2
    have e4 : w2.1 = w.1 := e4
    obtain rfl : j = j2 := by omega
    have hrm := List.mem_of_getElem? (ruleAt_at (g := g) (i := (j : Int)) (by omega) (by omega))
    have := row_one (f := f) (o := o) B.hN (B.fo.sym _ hrm) h4 i4 (fun y hy => by
      rcases List.mem_append.1 hy with h | h
      · exact hn.kids w hw y h
      · exact hn.kids w2 hw2 y h) (fun y hy => by
      rcases List.mem_append.1 hy with h | h
      · exact hkt w hw y h
      · exact hkt w2 hw2 y h) out2 ho ho2
    exact hne (Prod.ext e4.symm this)
end Go.Proofs.Ytnlmfhnjjblhoaa.Ab
/- Truth values held against each other by !=: rules of the walk. No condition. -/
set_option linter.unusedVariables false
set_option linter.unusedSimpArgs false
namespace Go.Proofs.Ytnlmfhnjjblhoaa.Ab
section
variable {P : Program} {T : List TI} {N : Nat} {ops : Array Oper} {o : Oper} {rest : List Oper} {Q : Exit → St → Prop} {E F : Env} {M : List Ob}
theorem neb_run {t : Nat} (h : P.underlying t = some .bool) (a b : Bool) (w : World) : (binOp .neq t (.bool a) (.bool b)).run P w = .ok (.bool (!(a == b))) w := by
  have := equalIn_bool h 9999 a b w
  have e : Op.maxDepth = 9999 + 1 := rfl
  simp only [binOp, Op.equal, e]
  simp [this]
theorem aops_neb (hT : TOk P T) {t t' d : Nat} {x y : Operand} {a b : Bool} (ho : o.op = .binOp .neq t x y t') (ht : kindOf T t = some .bool) (hx : opA E x = .bool a) (hy : opA E y = .bool b) (hg : guardOn ops o E = some true) (hd : o.dst = some d) (hN : Nat.blt d N = true)
    (next : AOps P N ops rest Q ⟨(d, .bool (!(a == b))) :: E, M⟩) : AOps P N ops (o :: rest) Q ⟨E, M⟩ := by
  refine aops_val hg (by rw [hd]; exact hN) (.bool (!(a == b))) M (fun K G av w hi => ?_) (by rw [hd]; exact next)
  have hrx := opA_rep hi x
  have hry := opA_rep hi y
  rw [hx] at hrx; rw [hy] at hry
  simp only [Rep] at hrx hry
  refine ⟨.bool (!(a == b)), w, G, ?_, hi.ok, G.le_refl, rfl⟩
  simp only [execOp, ho, hrx, hry, Sem.run_bind, eqGuard_run (P := P) (w := w) (op := .neq) (t := t) (x := x) (y := y) (u := .bool a) (v := .bool b) (.inr (.inr (.inl ⟨_, rfl⟩))), neb_run (kindOf_bool hT ht), Result.andThen_ok]
  rfl
theorem seqT_neb (hT : TOk P T) {l : List Oper} {n : Nat} {t t' d : Nat} {x y : Operand} {a b : Bool} (ho : o.op = .binOp .neq t x y t') (ht : kindOf T t = some .bool) (hx : opA F x = .bool a) (hy : opA F y = .bool b) (hg : guardOn ops o F = some true) (hd : o.dst = some d) (hN : Nat.blt d N = true)
    (next : SeqT P N ops Q M ((d, .bool (!(a == b))) :: F) n l) : SeqT P N ops Q M F (n + 1) (o :: l) := by
  refine seqT_y (x := .bool (!(a == b))) (fun E hE rest Q next => ?_) hd next
  refine aops_neb hT ho ht ((agree_op hE (by rw [ho]; simp [Op.operands])).trans hx) ((agree_op hE (by rw [ho]; simp [Op.operands])).trans hy) ((agree_guard hE).trans hg) hd hN ?_
  rwa [hd] at next
theorem seqO_st (hT : TOk P T) {kp : List Ob} {al : List Nat} {q : Nat} {ll : List Oper} {n : Nat} (k : Nat) {t : Nat} {p x : Operand} {b off : Nat} {i : TI} {y : A} {room : Nat} {cs : List A} (cs' : List A) (M' : List Ob) (hi : al.contains q = true) (ho : o.op = .store t p x) (hp : opA F p = .ref b off) (hx : opA F x = y) (hk : known T t = some i)
    (hM : M[k]? = some ⟨some b, room, cs⟩) (hy : (Nat.beq y.cs.length i.size && cellsOk y) = true) (hoff : off + i.size ≤ cs.length) (hcs : cs.take off ++ (y.cs ++ cs.drop (off + i.size)) = cs') (hM' : M.set k ⟨some b, room, cs'⟩ = M') (hkp : ∀ o ∈ kp, o ∈ M')
    (hg : guardOn ops o F = some true) (hd : o.dst = none) (next : SeqO P N ops Q kp al (q + 1) F M' n ll) : SeqO P N ops Q kp al q F M (n + 1) (o :: ll) := by
  refine SeqO.make (x := fun _ => .any) (M2 := fun _ => M') hi (fun E hE rest Q next => ?_) (fun z o ho => hkp o ho) fun b => ?_
  · refine aops_stk hT k cs' M' ho ((agree_op hE (by rw [ho]; simp [Op.operands])).trans hp) ((agree_op hE (by rw [ho]; simp [Op.operands])).trans hx) hk hM hy hoff hcs hM' ((agree_guard hE).trans hg) hd ?_
    have := next []
    rw [hd] at this
    exact this
  · rw [hd]; exact next
end
end Go.Proofs.Ytnlmfhnjjblhoaa.Ab
/- Chapter 21's law of numbers: the walk. No condition. -/
set_option linter.unusedVariables false
set_option linter.unusedSimpArgs false
namespace Go.Proofs.Ytnlmfhnjjblhoaa.Ab
attribute [local irreducible] thenA inBlockA ACode AOps put IntKind.wrap

theorem foE_ok : FoOk ⟨[], 0⟩ := ⟨by decide, by simp⟩
theorem foE_no : ¬ FForm ⟨[], 0⟩ := fun h => absurd h.1.2 (by simp)
set_option maxHeartbeats 32000000 in
theorem numbers_main {g : Gr} {ks : List Int} (hg : GrOk g) (hk : ks.length ≤ 9223372036854775807) : ACalls Try.prog 12 [grA g, .psl ks.length (ints ks)] [] (fun r _ => r = .bool true) := by
  have hgr : great = 4611686018427387903 := rfl
  refine acalls_of_code 115 Try.func12 rfl rfl rfl ?_
  repeat (first | refine acode_seq ?_ | refine acode_region ?_)
  refine aops_boxf rfl rfl rfl rfl rfl rfl rfl ?_
  repeat (first | refine aops_end ?_ | refine aops_p tok rfl rfl rfl rfl ?_ | refine acode_seq ?_ | refine acode_region ?_)
  refine aops_callx Try.func29 rfl rfl rfl rfl (alive21_calls _) rfl rfl rfl ?_
  repeat (first | refine aops_end ?_ | refine aops_p tok rfl rfl rfl rfl ?_ | refine acode_seq ?_ | refine acode_region ?_)
  refine aops_call Try.func23 rfl rfl rfl rfl (check_calls hg _) rfl rfl ?_
  rintro y M1 ⟨⟨a0, rfl⟩, hM1⟩
  rw [hM1]
  repeat (first | refine aops_put rfl ?_ | refine aops_end ?_ | refine aops_p tok rfl rfl rfl rfl ?_ | refine acode_seq ?_ | refine acode_region ?_)
  refine aops_callb Try.func24 rfl rfl rfl rfl (few_calls _) rfl rfl rfl (fun hfew => ?_) (fun hfew => ?_)
  rotate_left
  · repeat' (first | refine aops_end ?_ | refine aops_o rfl rfl rfl ?_ | refine aops_p tok rfl rfl rfl rfl ?_ | refine acode_it rfl ?_ | refine acode_seq ?_ | refine acode_region ?_)
    refine acode_ret ?_
    repeat (refine ret_then ?_)
    exact ⟨_, rfl, resOf_tmp rfl⟩
  by_cases hk8 : ks.length ≤ 8
  rotate_left
  · repeat' (first | refine aops_end ?_ | refine aops_o rfl rfl rfl ?_ | refine aops_pbt tok rfl (by first | omega | decide) rfl rfl rfl ?_ | refine aops_pet tok rfl (by omega) rfl rfl rfl ?_ | refine aops_p tok rfl rfl rfl rfl ?_ | refine acode_it rfl ?_ | refine acode_seq ?_ | refine acode_region ?_)
    try any_goals (exfalso; omega)
    refine acode_ret ?_
    repeat (refine ret_then ?_)
    exact ⟨_, rfl, resOf_tmp rfl⟩
  by_cases hc : chkF g = 0
  rotate_left
  · repeat' (first | refine aops_end ?_ | refine aops_pbf tok rfl (by first | omega | decide) rfl rfl rfl ?_ | refine aops_pet tok rfl (by omega) rfl rfl rfl ?_ | (refine aops_pn tok rfl rfl rfl rfl ?_ ?_ <;> intro e_) | refine aops_p tok rfl rfl rfl rfl ?_ | refine acode_it rfl ?_ | refine acode_if rfl ?_ | refine acode_seq ?_ | refine acode_region ?_ | refine acode_skip ?_ | refine then_n ?_)
    try any_goals (exfalso; omega)
    refine acode_ret ?_
    repeat (refine ret_then ?_)
    exact ⟨_, rfl, resOf_tmp rfl⟩
  obtain ⟨N, hN⟩ : ∃ N : Nat, g.names = N := by
    have hform : (formF g).2 = 0 := by
      unfold chkF at hc
      split at hc
      · rename_i h1; exact absurd hc h1
      · rename_i h1; exact Classical.not_not.1 h1
    exact ⟨_, (form_ok hform).2⟩
  have hbc := fun M => build_calls (lim := 600) (n := ks.length) hg hc hN rfl (by omega) (by omega) M
  rw [show ((600 : Nat) : Int) = 600 from rfl] at hbc
  repeat' (first | refine aops_end ?_ | refine aops_pbf tok rfl (by first | omega | decide) rfl rfl rfl ?_ | (refine aops_pn tok rfl rfl rfl rfl ?_ ?_ <;> intro e_) | refine aops_p tok rfl rfl rfl rfl ?_ | refine acode_it rfl ?_ | refine acode_if rfl ?_ | refine acode_seq ?_ | refine acode_region ?_ | refine acode_skip ?_ | refine then_n ?_)
  try any_goals (exfalso; omega)
  refine aops_call Try.func21 rfl rfl rfl rfl (hbc _) rfl rfl ?_
  rintro y M2 ⟨hR, hM2⟩
  rw [hM2]
  rcases hR with ⟨a1, e1, he1, _, rfl⟩ | ⟨f, hbf, hf, hrg, rfl⟩
  · repeat (first | refine aops_put rfl ?_ | refine aops_p tok rfl rfl rfl rfl ?_)
    refine aops_alloc tok rfl rfl rfl rfl rfl rfl fun xb => ?_
    repeat (first | refine aops_p tok rfl rfl rfl rfl ?_ | refine aops_stn tok rfl rfl rfl rfl rfl rfl rfl rfl rfl ?_)
    refine aops_pubref0 8 rfl ?_
    repeat (first | refine aops_end ?_ | refine aops_p tok rfl rfl rfl rfl ?_ | refine acode_seq ?_ | refine acode_region ?_)
    refine aops_callx Try.func16 rfl rfl rfl rfl (no_of foE_no (rtrees_calls foE_ok _)) rfl rfl rfl ?_
    repeat' (first | refine aops_end ?_ | refine aops_o rfl rfl rfl ?_ | refine aops_pbt tok rfl (by first | omega | decide) rfl rfl rfl ?_ | (refine aops_pn tok rfl rfl rfl rfl ?_ ?_ <;> intro e_) | refine aops_p tok rfl rfl rfl rfl ?_ | refine acode_it rfl ?_ | refine acode_seq ?_ | refine acode_region ?_)
    try any_goals (exfalso; omega)
    refine acode_ret ?_
    repeat (refine ret_then ?_)
    exact ⟨_, rfl, resOf_tmp rfl⟩
  obtain ⟨F, o, B⟩ := blt_of hc hN hbf
  have hF := blt_form B
  have hw := hF.2 _ (by have := hF.1; omega : f.root.toNat < f.nodes.length)
  repeat (first | refine aops_put rfl ?_ | refine aops_p tok rfl rfl rfl rfl ?_)
  refine aops_alloc tok rfl rfl rfl rfl rfl rfl fun xb => ?_
  repeat (first | refine aops_p tok rfl rfl rfl rfl ?_ | refine aops_stn tok rfl rfl rfl rfl rfl rfl rfl rfl rfl ?_)
  refine aops_pubref0 8 rfl ?_
  repeat (first | refine aops_end ?_ | refine aops_p tok rfl rfl rfl rfl ?_ | refine acode_seq ?_ | refine acode_region ?_)
  refine aops_callx Try.func16 rfl rfl rfl rfl (yes_of hF (rtrees_calls hf _)) rfl rfl rfl ?_
  have htl := fun h => tr_len (f := f) hF h
  generalize trees f f.root.toNat = n at *
  generalize decide (n < great) = bd
  by_cases hn : n ≤ 60
  rotate_left
  · repeat' (first | refine aops_end ?_ | refine aops_o rfl rfl rfl ?_ | refine aops_pbt tok rfl (by first | omega | decide) rfl rfl rfl ?_ | refine aops_pbf tok rfl (by first | omega | decide) rfl rfl rfl ?_ | (refine aops_pn tok rfl rfl rfl rfl ?_ ?_ <;> intro e_) | refine aops_p tok rfl rfl rfl rfl ?_ | refine acode_it rfl ?_ | refine acode_if rfl ?_ | refine acode_seq ?_ | refine acode_region ?_ | refine acode_skip ?_ | refine then_n ?_)
    try any_goals (exfalso; omega)
    refine acode_ret ?_
    repeat (refine ret_then ?_)
    exact ⟨_, rfl, resOf_tmp rfl⟩
  obtain ⟨hte, hb⟩ := htl (by omega)
  clear htl
  have hlg := fun M => yes_of hF (largest_calls hf M)
  have hlb := fun (h : big f f.root.toNat ≤ 2000) => And.intro (big_lim hw (by omega)) (big_tr hw (by show _ < 1099511627776; omega))
  generalize big f f.root.toNat = bg at *
  repeat' (first | refine aops_end ?_ | refine aops_o rfl rfl rfl ?_ | refine aops_pbt tok rfl (by first | omega | decide) rfl rfl rfl ?_ | refine aops_pbf tok rfl (by first | omega | decide) rfl rfl rfl ?_ | (refine aops_pn tok rfl rfl rfl rfl ?_ ?_ <;> intro e_) | refine aops_p tok rfl rfl rfl rfl ?_ | refine acode_if rfl ?_ | refine acode_seq ?_ | refine acode_region ?_ | refine acode_skip ?_ | refine then_n ?_)
  try any_goals (exfalso; omega)
  refine aops_callx Try.func25 rfl rfl rfl rfl (hlg _) rfl rfl rfl ?_
  by_cases hbig : bg ≤ 2000
  rotate_left
  · repeat' (first | refine aops_end ?_ | refine aops_pbt tok rfl (by first | omega | decide) rfl rfl rfl ?_ | refine aops_pet tok rfl (by omega) rfl rfl rfl ?_ | refine acode_it rfl ?_ | refine acode_seq ?_ | refine acode_region ?_)
    try any_goals (exfalso; omega)
    refine acode_ret ?_
    repeat (refine ret_then ?_)
    exact ⟨_, rfl, resOf_tmp rfl⟩
  obtain ⟨hlim, hsz⟩ := hlb hbig
  have hA := fun M => yes_of hF (uall_calls hf hrg (fun _ => hlim) (fun _ => hb) 60 M)
  have hC := fun i M => unthf_calls hf hrg (fun _ => hlim) (fun _ => hb) i M
  unfold NthR Here at hC
  rw [show cutN 60 = 60 from by decide, List.take_of_length_le (by omega)] at hA
  generalize trL f f.root.toNat = L at *
  repeat' (first | refine aops_end ?_ | refine aops_pbf tok rfl (by first | omega | decide) rfl rfl rfl ?_ | refine aops_p tok rfl rfl rfl rfl ?_ | refine acode_if rfl ?_ | refine acode_seq ?_ | refine acode_region ?_ | refine acode_skip ?_ | refine then_n ?_)
  try any_goals (exfalso; omega)
  refine aops_callx Try.func30 rfl rfl rfl rfl (hA _) rfl rfl rfl ?_
  repeat' (first | refine aops_end ?_ | refine aops_pbt tok rfl (by first | omega | decide) rfl rfl rfl ?_ | (refine aops_pn tok rfl rfl rfl rfl ?_ ?_ <;> intro e_) | refine aops_p tok rfl rfl rfl rfl ?_ | refine acode_it rfl ?_ | refine acode_if rfl ?_ | refine acode_seq ?_ | refine acode_region ?_ | refine acode_block ?_ | refine acode_skip ?_ | refine then_n ?_)
  try any_goals (exfalso; omega)
  refine acode_loopS (ι := Nat) (fun k => [(8, .pp (foC f)), (11, .int .i64 n), (13, .psl L.length (encs trC L)), (15, .int .i64 ((k : Int) - 1))]) (fun _ => []) (fun k => L.length + 2 - k) (fun k => k ≤ L.length + 2) 0 (Nat.zero_le _) ⟨rfl, rfl, rfl, rfl, trivial⟩ rfl ?_
  rintro k hk2
  repeat (first | refine aops_end ?_ | refine aops_p tok rfl rfl rfl rfl ?_ | refine acode_seq ?_ | refine acode_region ?_)
  refine acode_id rfl (fun e => ?_) (fun e => ?_)
  · by_cases hh : 0 ≤ (k : Int) - 1 ∧ (k : Int) - 1 < L.length
    · obtain ⟨t, ht⟩ : ∃ t, L[((k : Int) - 1).toNat]? = some t := ⟨L[((k : Int) - 1).toNat]'(by omega), List.getElem?_eq_getElem _⟩
      have hts := hsz t (List.mem_of_getElem? ht)
      have hC := fun M => (hC ((k : Int) - 1) M).mono (R' := fun r M' => r = .tup [trA t, .bool true] ∧ M' = M) (by
        rintro r M' ⟨⟨t', _, h1, rfl⟩ | ⟨h1, _⟩, rfl⟩
        · rw [ht] at h1; cases h1; exact ⟨rfl, rfl⟩
        · exact absurd ⟨hF, hh⟩ h1)
      have hT := fun M => sameT_calls t (by omega) t (by omega) M
      rw [eqT_self t] at hT
      obtain ⟨hh1, hh2⟩ := hh
      repeat (first | refine aops_p tok rfl rfl rfl rfl ?_ | refine acode_seq ?_ | refine acode_region ?_ | refine acode_block ?_ | refine acode_skip ?_ | refine then_n ?_)
      refine aops_callx Try.func34 rfl rfl rfl rfl (hC _) rfl rfl rfl ?_
      repeat (refine aops_p tok rfl rfl rfl rfl ?_)
      refine aops_alloc tok rfl rfl rfl rfl rfl rfl fun b1 => ?_
      repeat (first | refine aops_p tok rfl rfl rfl rfl ?_ | refine aops_stn tok rfl rfl rfl rfl rfl rfl rfl rfl rfl ?_)
      refine aops_pubref0 16 rfl ?_
      repeat (first | refine aops_end ?_ | refine acode_seq ?_)
      refine acode_drawT 31 mixed (by kernel_rfl) (by kernel_rfl) ?_
      repeat' (first | refine seqT_o rfl rfl rfl ?_ | (refine seqT_pd tok rfl rfl rfl rfl ?_ ?_ <;> intro e_) | refine seqT_p tok rfl rfl rfl rfl ?_)
      any_goals (exfalso; omega)
      refine seqT_neb tok rfl rfl rfl rfl rfl rfl rfl ?_
      repeat (refine seqT_p tok rfl rfl rfl rfl ?_)
      refine seqT_ix tok [.int .i64 t.rule, .int .i64 t.tok, .psl t.kids.length (encs trC t.kids)] rfl rfl rfl rfl (by omega) (by omega) (by simp) (by rw [← trC_eq]; exact tr_at ht) rfl rfl rfl ?_
      repeat (refine seqT_p tok rfl rfl rfl rfl ?_)
      refine seqT_call _ Try.func33 rfl rfl rfl rfl (hT _) rfl rfl rfl ?_
      repeat (first | refine seqT_o rfl rfl rfl ?_ | refine seqT_p tok rfl rfl rfl rfl ?_)
      refine SeqT.done ?_
      repeat' (first | refine aops_end ?_ | refine aops_a tok rfl (by omega) (by omega) rfl rfl rfl ?_ | refine aops_p tok rfl rfl rfl rfl ?_ | refine acode_if rfl ?_ | refine acode_region ?_ | refine acode_skip ?_ | refine then_n ?_ | refine block_n ?_)
      exact ⟨k + 1, by omega, by omega, ⟨rfl, rfl, rfl, congrArg (A.int .i64) (by omega), trivial⟩, rfl⟩
    · have hC := fun M => (hC ((k : Int) - 1) M).mono (R' := fun r M' => r = .tup [noT, .bool false] ∧ M' = M) (by
        rintro r M' ⟨⟨t', h2, h1, rfl⟩ | ⟨h1, rfl⟩, rfl⟩
        · exact absurd h2.2 hh
        · exact ⟨rfl, rfl⟩)
      have hT := fun M => acalls_arg (xs := [noT, noT]) (.cons (.agg (.cons (.refl _) (.cons (.refl _) (.cons .nils .nil)))) (.cons (.agg (.cons (.refl _) (.cons (.refl _) (.cons .nils .nil)))) .nil)) (sameT_calls ⟨0, 0, []⟩ (by decide) ⟨0, 0, []⟩ (by decide) M)
      rw [eqT_self] at hT
      repeat (first | refine aops_p tok rfl rfl rfl rfl ?_ | refine acode_seq ?_ | refine acode_region ?_ | refine acode_block ?_ | refine acode_skip ?_ | refine then_n ?_)
      refine aops_callx Try.func34 rfl rfl rfl rfl (hC _) rfl rfl rfl ?_
      repeat (refine aops_p tok rfl rfl rfl rfl ?_)
      refine aops_alloc tok rfl rfl rfl rfl rfl rfl fun b1 => ?_
      repeat (first | refine aops_p tok rfl rfl rfl rfl ?_ | refine aops_stn tok rfl rfl rfl rfl rfl rfl rfl rfl rfl ?_)
      refine aops_pubref0 16 rfl ?_
      repeat (first | refine aops_end ?_ | refine acode_seq ?_)
      refine acode_drawT 31 mixed (by kernel_rfl) (by kernel_rfl) ?_
      repeat' (first | refine seqT_o rfl rfl rfl ?_ | (refine seqT_pd tok rfl rfl rfl rfl ?_ ?_ <;> intro e_) | refine seqT_p tok rfl rfl rfl rfl ?_)
      any_goals (exfalso; omega)
      all_goals
        (refine seqT_neb tok rfl rfl rfl rfl rfl rfl rfl ?_
         repeat (first | refine seqT_o rfl rfl rfl ?_ | refine seqT_p tok rfl rfl rfl rfl ?_)
         refine seqT_call _ Try.func33 rfl rfl rfl rfl (hT _) rfl rfl rfl ?_
         repeat (refine seqT_p tok rfl rfl rfl rfl ?_)
         refine SeqT.done ?_
         repeat' (first | refine aops_end ?_ | refine aops_a tok rfl (by omega) (by omega) rfl rfl rfl ?_ | refine aops_p tok rfl rfl rfl rfl ?_ | refine acode_if rfl ?_ | refine acode_region ?_ | refine acode_skip ?_ | refine then_n ?_ | refine block_n ?_)
         exact ⟨k + 1, by omega, by omega, ⟨rfl, rfl, rfl, congrArg (A.int .i64) (by omega), trivial⟩, rfl⟩)
  · refine acode_exit ?_
    repeat (first | refine exit_then ?_ | refine exit_here ?_ | refine then_n ?_)
    repeat (first | refine aops_end ?_ | refine aops_p tok rfl rfl rfl rfl ?_ | refine acode_seq ?_ | refine acode_region ?_)
    refine acode_ret ?_
    skip
    exact ⟨_, rfl, resOf_tmp rfl⟩
theorem unfoldNumbers_calls (zs : List A) (h : GoodL T [43, 26] zs) : ACalls Try.prog 12 zs [] (fun r _ => r = .bool true) := by
  obtain ⟨_, _, rfl, ⟨f1, g1⟩, _, _, rfl, ⟨f2, g2⟩, rfl⟩ := h
  obtain ⟨g, rfl, hg⟩ := good_gr g1
  obtain ⟨ks, rfl, hk⟩ := good_ints (e := 3) (k := .i64) rfl rfl g2
  exact numbers_main hg (Nat.le_trans hk (by decide))
end Go.Proofs.Ytnlmfhnjjblhoaa.Ab
/- Maps that say yes to rows of numbers: held against a row. No condition. -/
set_option linter.unusedVariables false
set_option linter.unusedSimpArgs false
namespace Go.Proofs.Ytnlmfhnjjblhoaa.Ab
section
variable {P : Program} {T : List TI} {N : Nat} {ops : Array Oper} {rest : List Oper} {o : Oper} {Q : Exit → St → Prop} {E F : Env} {M : List Ob}
theorem run_eqInts (w : World) (d : Nat) (t e : TypeId) (n : Nat) (k : IntKind) (ht : P.underlying t = some (.array n e)) (he : P.underlying e = some (.int k)) (hsz : ∀ w, (sizeOf e).run P w = .ok 1 w) (xs ys : List Int) (hx : xs.length = n) (hy : ys.length = n) :
    (Op.equalIn (d + 2) t (.agg (xs.map (Value.int k)).toArray) (.agg (ys.map (Value.int k)).toArray)).run P w = .ok (decide (xs = ys)) w := by
  have hd : decide (xs = ys) = decide (∀ i ∈ List.range' 0 n 1, xs.getD i 0 = ys.getD i 0) := by
    congr 1
    rw [eq_iff_iff]
    constructor
    · rintro rfl i _; rfl
    · intro h
      refine List.ext_getElem (by omega) fun i h1 h2 => ?_
      have := h i (by rw [List.mem_range'_1]; omega)
      simpa [List.getD, List.getElem?_eq_getElem h1, List.getElem?_eq_getElem h2] using this
  rw [hd, Op.equalIn]
  simp only [Sem.run_bind, run_underlying ht, Result.andThen_ok, hsz, Std.Legacy.Range.forIn_eq_forIn_range', Std.Legacy.Range.size, Nat.sub_zero, Nat.add_sub_cancel, Nat.div_one]
  have hl : ∀ i ∈ List.range' 0 n 1, i < n := fun i hi => by simpa using (List.mem_range'_1.1 hi).2
  generalize List.range' 0 n 1 = l at hl ⊢
  induction l with
  | nil => simp
  | cons i l ih =>
    have hi : i < n := hl i (by simp)
    have px : ∀ zs : List Int, zs.length = n → (part e (zs.map (Value.int k)).toArray (i * 1)).run P w = .ok (Value.int k (zs.getD i 0)) w := fun zs hz => by
      simp [part, isAgg, run_underlying he, List.getD, List.getElem?_eq_getElem (show i < zs.length by omega)]
    have pe : (Op.equalIn (d + 1) e (Value.int k (xs.getD i 0)) (Value.int k (ys.getD i 0))).run P w = .ok (decide (xs.getD i 0 = ys.getD i 0)) w := by
      rw [run_equalIn_int w d e k k _ _ he]
      simp
      rfl
    simp only [List.forIn_cons, Sem.run_bind, px xs hx, px ys hy, pe, Result.andThen_ok]
    by_cases h : xs.getD i 0 = ys.getD i 0
    · simp only [h, decide_true, Bool.not_true, Bool.false_eq_true, if_false, Sem.run_pure, List.mem_cons, forall_eq_or_imp, true_and]
      exact ih fun j hj => hl j (by simp [hj])
    · have : ¬ ∀ j ∈ i :: l, xs.getD j 0 = ys.getD j 0 := fun hh => h (hh i (by simp))
      simp only [h, decide_false, Bool.not_false, if_true, Sem.run_pure, Result.andThen_ok, this]
theorem run_checkInts (w : World) (em : Bool) (m : Nat) (t e : TypeId) (n : Nat) (k : IntKind) (ht : P.underlying t = some (.array n e)) (he : P.underlying e = some (.int k)) (hsz : ∀ w, (sizeOf e).run P w = .ok 1 w) (xs : List Int) (hx : xs.length = n) :
    (Instr.checkKey em (m + 2) t (.agg (xs.map (Value.int k)).toArray)).run P w = .ok () w := by
  rw [Instr.checkKey]
  simp only [Sem.run_bind, run_underlying ht, Result.andThen_ok, hsz, Std.Legacy.Range.forIn_eq_forIn_range', Std.Legacy.Range.size, Nat.sub_zero, Nat.add_sub_cancel, Nat.div_one]
  have hl : ∀ i ∈ List.range' 0 n 1, i < n := fun i hi => by simpa using (List.mem_range'_1.1 hi).2
  generalize List.range' 0 n 1 = l at hl ⊢
  induction l with
  | nil => simp
  | cons i l ih =>
    have hi : i < n := hl i (by simp)
    have px : (part e (xs.map (Value.int k)).toArray (i * 1)).run P w = .ok (Value.int k (xs.getD i 0)) w := by
      simp [part, isAgg, run_underlying he, List.getD, List.getElem?_eq_getElem (show i < xs.length by omega)]
    have pc : (Instr.checkKey em (m + 1) e (Value.int k (xs.getD i 0))).run P w = .ok () w := by
      simp [Instr.checkKey, run_underlying he]
    simp only [List.forIn_cons, Sem.run_bind, hsz, px, pc, Result.andThen_ok, Sem.run_pure] at ih ⊢
    exact ih fun j hj => hl j (by simp [hj])

theorem keyView_keyV (k : List Int) : keyView (keyV k) = some k := by
  simp only [keyView, keyV]
  induction k with
  | nil => rfl
  | cons x k ih =>
    simp only [List.map_cons, List.mapM_cons, intView]
    rw [ih]; rfl
theorem keyView_inv {v : Value} {k : List Int} (h : keyView v = some k) : v = keyV k := by
  cases v with
  | agg cs =>
    simp only [keyView] at h
    have : ∀ (l : List Value) (k : List Int), l.mapM intView = some k → l = k.map (Value.int .i64) := by
      intro l
      induction l with
      | nil => intro k hk; simp at hk; subst hk; rfl
      | cons v l ih =>
        intro k hk
        simp only [List.mapM_cons] at hk
        cases hv : intView v with
        | none => simp [hv] at hk
        | some x =>
          cases hl : l.mapM intView with
          | none => simp [hv, hl] at hk
          | some ks =>
            simp [hv, hl] at hk
            subst hk
            have : v = .int .i64 x := by
              unfold intView at hv
              split at hv
              · simp at hv; subst hv; rfl
              · cases hv
            rw [this, ih ks hl]; rfl
    have := this _ _ h
    unfold keyV
    rw [← this]
  | _ => simp [keyView] at h
structure KeyT (P : Program) (kt : Nat) (n : Nat) : Prop where
  e : ∃ e, P.underlying kt = some (.array n e) ∧ P.underlying e = some (.int .i64) ∧ ∀ w, (sizeOf e).run P w = .ok 1 w
theorem run_askInts (w : World) {kt n : Nat} (hk : KeyT P kt n) (k : List Int) (hl : k.length = n) : ∀ (es : List MapEntry) (ks : List (List Int)) (i : Nat), mapView es = some ks → (∀ x ∈ ks, x.length = n) →
    (k ∈ ks ∧ ∃ j e, (Instr.findAsking kt (keyV k) es i).run P w = .ok (some (i + j, .bool true)) w ∧ es[j]? = some e ∧ e.key = keyV k) ∨ (k ∉ ks ∧ (Instr.findAsking kt (keyV k) es i).run P w = .ok none w)
  | [], ks, i, h, _ => by
    simp only [mapView, Option.some.injEq] at h
    subst h
    exact .inr ⟨by simp, by simp [Instr.findAsking]⟩
  | e :: es, ks, i, h, hn => by
    obtain ⟨et, h1, h2, h3⟩ := hk.e
    simp only [mapView] at h
    split at h
    · rename_i k1 hv hb
      cases hm : mapView es with
      | none => simp [hm] at h
      | some ks' =>
        simp only [hm, Option.map_some, Option.some.injEq] at h
        subst h
        have ek := keyView_inv hv
        have eq : (Op.equal kt (keyV k) e.key).run P w = .ok (decide (k = k1)) w := by
          rw [ek]
          exact run_eqInts w 9998 kt et n .i64 h1 h2 h3 k k1 hl (hn k1 (by simp))
        by_cases hkk : k = k1
        · refine .inl ⟨by simp [hkk], 0, e, ?_, rfl, by rw [ek, hkk]⟩
          subst hkk
          simp [Instr.findAsking, eq, hb]
        · rcases run_askInts w hk k hl es ks' (i + 1) hm (fun x hx => hn x (by simp [hx])) with ⟨a1, j, e', a2, a3, a4⟩ | ⟨a1, a2⟩
          · exact .inl ⟨by simp [a1], j + 1, e', by simp [Instr.findAsking, eq, hkk, a2, Nat.add_assoc, Nat.add_comm 1 j], by simpa using a3, a4⟩
          · exact .inr ⟨by simp [hkk, a1], by simp [Instr.findAsking, eq, hkk, a2]⟩
    · cases h
theorem und_map {t k e : Nat} {i : TI} (h : TG P t i) (hk : i.k = .map k e) : P.underlying t = some (.map k e) := by
  obtain ⟨d, h1, h2⟩ := h.und
  rw [hk] at h2
  cases d <;> simp [tkOf] at h2
  rw [h1, h2.1, h2.2]
/-- What the table says of a map's type: from rows of n numbers to truth values. -/
def mapT (T : List TI) (t n : Nat) : Bool := match kindOf T t with
  | some (.map k e) => (match kindOf T k with
    | some (.array m x) => Nat.beq m n && (match known T x with | some ⟨.int .i64, 1, _, _⟩ => true | _ => false)
    | _ => false) && (match known T e with | some ⟨.bool, _, _, [.bool false]⟩ => true | _ => false)
  | _ => false
theorem mapT_spec (hT : TOk P T) {t n : Nat} (h : mapT T t n = true) : ∃ k e, P.underlying t = some (.map k e) ∧ KeyT P k n ∧ (∀ w, (zeroValue e).run P w = .ok (.bool false) w) ∧ ∃ x, P.underlying k = some (.array n x) := by
  unfold mapT at h
  split at h
  · rename_i k e hk
    rw [Bool.and_eq_true] at h
    obtain ⟨ha, hb⟩ := h
    split at ha
    · rename_i m x hkm
      rw [Bool.and_eq_true] at ha
      obtain ⟨h1, h2⟩ := ha
      obtain rfl := Nat.eq_of_beq_eq_true h1
      split at h2
      · rename_i bb zz hx
        split at hb
        · rename_i s1 b1 he
          obtain ⟨ti, hti, hkk⟩ := Option.map_eq_some_iff.1 hk
          obtain ⟨k1, k2⟩ := known_spec hti
          obtain ⟨tj, htj, hkj⟩ := Option.map_eq_some_iff.1 hkm
          obtain ⟨k3, k4⟩ := known_spec htj
          obtain ⟨k5, k6⟩ := known_spec hx
          obtain ⟨k7, k8⟩ := known_spec he
          have hu := und_map (hT.get k1 k2) hkk
          have ha : P.underlying k = some (.array m x) := by
            obtain ⟨d, d1, d2⟩ := (hT.get k3 k4).und
            rw [hkj] at d2
            cases d <;> simp [tkOf] at d2
            rw [d1, d2.1, d2.2]
          refine ⟨k, e, hu, ⟨x, ha, und_int (hT.get k5 k6) rfl, fun w => run_size (hT.get k5 k6)⟩, fun w => ?_, x, ha⟩
          obtain ⟨info, z, i1, i2, i3, i4, i5, i6, i7⟩ := (hT.get k7 k8).info
          obtain ⟨v, v1, v2⟩ := i7 rfl
          simp at v1
          subst v1; subst v2
          obtain ⟨z', z1, z2⟩ := run_zero (P := P) (w := w) (hT.get k7 k8)
          have : (zeroValue e).run P w = .ok (.bool false) w := by
            simp [zeroValue, run_info i1, i4]
          exact this
        · cases hb
      · cases h2
    · cases ha
  · cases h
theorem ints_value {G : Gh} : ∀ {l : List Int} {vs : List Value}, RepL G (ints l) vs → vs = l.map (Value.int .i64)
  | [], _, h => h
  | x :: l, _, h => by
    obtain ⟨v, vs', rfl, h1, h2⟩ := h
    simp only [Rep] at h1
    rw [h1, ints_value h2]; rfl
theorem look_run (hT : TOk P T) {t n : Nat} (ht : mapT T t n = true) {w : World} {b : Nat} {es : Array MapEntry} {c : Nat} (hb : w.heap[b]? = some (.map es c)) {ks : List (List Int)} (hv : mapView es.toList = some ks) (hn : ∀ x ∈ ks, x.length = n) (k : List Int) (hk : k.length = n) :
    (Instr.lookup t (.map (some b)) (keyV k) false).run P w = .ok (.bool (decide (k ∈ ks))) w := by
  obtain ⟨kt, et, h1, h2, h3, x, h4⟩ := mapT_spec hT ht
  obtain ⟨e, h5, h6, h7⟩ := id h2.e
  have hc := run_checkInts (P := P) w es.isEmpty 9998 kt e n .i64 h5 h6 h7 k hk
  have hf := run_findKey_eq (P := P) w (k := kt) (by rw [h4]) (keyV k) es.toList
  unfold Instr.lookup
  rcases run_askInts w h2 k hk es.toList ks 0 hv hn with ⟨a1, j, e', a2, a3, a4⟩ | ⟨a1, a2⟩
  · simp only [Sem.run_bind, run_underlying h1, Result.andThen_ok, MapKept.run_getObj_map hb, Sem.run_pure]
    rw [show (Instr.checkKey es.isEmpty 10000 kt (keyV k)).run P w = .ok () w from hc]
    simp only [Result.andThen_ok, hf, a2, Sem.run_pure, a1, decide_true]
    rfl
  · simp only [Sem.run_bind, run_underlying h1, Result.andThen_ok, MapKept.run_getObj_map hb, Sem.run_pure]
    rw [show (Instr.checkKey es.isEmpty 10000 kt (keyV k)).run P w = .ok () w from hc]
    simp only [Result.andThen_ok, hf, a2, Sem.run_pure, Sem.run_bind, h3, a1, decide_false]
    rfl
/-- A row of numbers held against a frozen map. -/
theorem aops_look (hT : TOk P T) {t n d : Nat} {x ix : Operand} {ks : List (List Int)} {k : List Int} (ho : o.op = .lookup t x ix false) (ht : mapT T t n = true) (hx : opA E x = .mp ks) (hix : opA E ix = .agg (ints k)) (hn : ∀ x ∈ ks, x.length = n) (hk : k.length = n)
    (hg : guardOn ops o E = some true) (hd : o.dst = some d) (hN : Nat.blt d N = true) (next : AOps P N ops rest Q ⟨(d, .bool (decide (k ∈ ks))) :: E, M⟩) : AOps P N ops (o :: rest) Q ⟨E, M⟩ := by
  refine aops_val hg (by rw [hd]; exact hN) (.bool (decide (k ∈ ks))) M (fun K G av w hi => ?_) (by rw [hd]; exact next)
  have hrx := opA_rep hi x
  have hry := opA_rep hi ix
  rw [hx] at hrx; rw [hix] at hry
  obtain ⟨b, ex, hy⟩ := hrx
  obtain ⟨vs, ey, hl⟩ := hry
  have e2 := ints_value hl
  subst e2
  obtain ⟨es, c, m1, m2⟩ := (hi.ok.mz b ks hy).1
  refine ⟨_, w, G, ?_, hi.ok, G.le_refl, rfl⟩
  have := look_run hT ht m1 m2 hn k hk
  simp only [execOp, ho, ex, ey, Sem.run_bind, show (Value.agg (List.map (Value.int IntKind.i64) k).toArray) = keyV k from rfl, this, Result.andThen_ok]
  rfl
theorem yields_look (hT : TOk P T) {t n : Nat} {x ix : Operand} {ks : List (List Int)} {k : List Int} (ho : o.op = .lookup t x ix false) (ht : mapT T t n = true) (hx : opA F x = .mp ks) (hix : opA F ix = .agg (ints k)) (hn : ∀ x ∈ ks, x.length = n) (hk : k.length = n)
    (hg : guardOn ops o F = some true) (hd : dstOk N o.dst = true) : Yields P N ops o (.bool (decide (k ∈ ks))) F M := by
  intro E hE rest Q next
  have hox : ∀ y ∈ o.op.operands, opA E y = opA F y := fun y hy => agree_op hE hy
  rw [ho] at hox
  have hx' : opA E x = .mp ks := by rw [hox x (by simp [Op.operands]), hx]
  have hix' : opA E ix = .agg (ints k) := by rw [hox ix (by simp [Op.operands]), hix]
  refine aops_val (by rw [agree_guard hE]; exact hg) hd (.bool (decide (k ∈ ks))) M (fun K G av w hi => ?_) next
  have hrx := opA_rep hi x
  have hry := opA_rep hi ix
  rw [hx'] at hrx; rw [hix'] at hry
  obtain ⟨b, ex, hy⟩ := hrx
  obtain ⟨vs, ey, hl⟩ := hry
  have e2 := ints_value hl
  subst e2
  obtain ⟨es, c, m1, m2⟩ := (hi.ok.mz b ks hy).1
  refine ⟨_, w, G, ?_, hi.ok, G.le_refl, rfl⟩
  have := look_run hT ht m1 m2 hn k hk
  simp only [execOp, ho, ex, ey, Sem.run_bind, show (Value.agg (List.map (Value.int IntKind.i64) k).toArray) = keyV k from rfl, this, Result.andThen_ok]
  rfl
end
end Go.Proofs.Ytnlmfhnjjblhoaa.Ab
/- A new map while it is filled: the walk beside it, and its freezing. No condition. -/
set_option linter.unusedVariables false
set_option linter.unusedSimpArgs false
namespace Go.Proofs.Ytnlmfhnjjblhoaa.Ab
/-- The invariant, and one new map of one's own besides. -/
structure InvM (K : Ctx) (N : Nat) (G : Gh) (st : St) (a : Act) (w : World) (b : Nat) (es : Array MapEntry) (c : Nat) : Prop where
  i : Inv K N G st a w
  m : w.heap[b]? = some (.map es c)
  nw : K.w0.heap.size ≤ b
  y : G.Y b = none
abbrev Pst := Ctx → Exit → Act → World → Prop
def GCode (P : Program) (N : Nat) (c : Code) (R : Pst) (st : St) : Prop := ∀ K G a w, Inv K N G st a w → c.wp P (R K) a w
def GOps (P : Program) (N : Nat) (ops : Array Oper) (l : List Oper) (R : Pst) (st : St) : Prop := ∀ K G a w, Inv K N G st a w → wpList P ops (R K) l a w
def HCode (P : Program) (N : Nat) (c : Code) (R : Pst) (b : Nat) (es : Array MapEntry) (cl : Nat) (st : St) : Prop := ∀ K G a w, InvM K N G st a w b es cl → c.wp P (R K) a w
def HOps (P : Program) (N : Nat) (ops : Array Oper) (l : List Oper) (R : Pst) (b : Nat) (es : Array MapEntry) (cl : Nat) (st : St) : Prop := ∀ K G a w, InvM K N G st a w b es cl → wpList P ops (R K) l a w
section
variable {P : Program} {T : List TI} {N : Nat} {ops : Array Oper} {rest : List Oper} {o : Oper} {Q : Exit → St → Prop} {R : Pst} {E F : Env} {M : List Ob} {st st' : St} {b : Nat} {es : Array MapEntry} {cl : Nat} {x y : Code}
def toR (N : Nat) (Q : Exit → St → Prop) : Pst := fun K => lift K N Q
def thenR (P : Program) (y : Code) (R : Pst) : Pst := fun K => Exit.then (y.wp P (R K)) (R K)
def blockR (id : Nat) (R : Pst) : Pst := fun K => Exit.inBlock id (R K)
theorem acode_of_g (h : GCode P N x (toR N Q) st) : ACode P N x Q st := h
theorem gcode_of_a (h : ACode P N x Q st) : GCode P N x (toR N Q) st := h
theorem aops_of_g {l : List Oper} (h : GOps P N ops l (toR N Q) st) : AOps P N ops l Q st := h
theorem gops_of_a {l : List Oper} (h : AOps P N ops l Q st) : GOps P N ops l (toR N Q) st := h
theorem gcode_seq (h : GCode P N x (thenR P y R) st) : GCode P N (.seq x y) R st := fun K G a w hi => wp_seq (h K G a w hi)
theorem hcode_seq (h : HCode P N x (thenR P y R) b es cl st) : HCode P N (.seq x y) R b es cl st := fun K G a w hi => wp_seq (h K G a w hi)
theorem hcode_block {id : Nat} (h : HCode P N x (blockR id R) b es cl st) : HCode P N (.block id x) R b es cl st := fun K G a w hi => wp_block (h K G a w hi)
theorem gcode_region {id : Nat} {l : List Oper} (h : GOps P N l.toArray l R st) : GCode P N (.region id l.toArray false) R st := fun K G a w hi => wp_region_lit (h K G a w hi)
theorem hcode_region {id : Nat} {l : List Oper} (h : HOps P N l.toArray l R b es cl st) : HCode P N (.region id l.toArray false) R b es cl st := fun K G a w hi => wp_region_lit (h K G a w hi)
theorem gops_end (h : GCode P N y R st) : GOps P N ops [] (thenR P y R) st := fun K G a w hi => wpList_nil (h K G a w hi)
theorem hops_end (h : HCode P N y R b es cl st) : HOps P N ops [] (thenR P y R) b es cl st := fun K G a w hi => wpList_nil (h K G a w hi)
theorem hcode_skip (h : HCode P N y R b es cl st) : HCode P N .skip (thenR P y R) b es cl st := fun K G a w hi => wp_skip (h K G a w hi)
/-- A part that is walked as ever. -/
theorem gcode_a (h : ACode P N x (fun e s => e = .normal ∧ GCode P N y R s) st) : GCode P N x (thenR P y R) st := fun K G a w hi => by
  refine wp_mono (h K G a w hi) ?_
  rintro e a' w' ⟨G', s, ⟨rfl, next⟩, i⟩
  exact next K G' a' w' i
/-- What another walk leaves, beside the map. -/
theorem InvM.back {K : Ctx} {G G' : Gh} {a a' : Act} {w w' : World} (h : InvM K N G st a w b es cl) (h' : Inv ⟨w, keys st.M, G⟩ N G' st' a' w') : InvM K N G' st' a' w' b es cl := by
  have hlt : b < w.heap.size := (Array.getElem?_eq_some_iff.1 h.m).1
  have hn : b ∉ keys st.M := fun hm => by
    obtain ⟨o, ho, hob⟩ := List.mem_filterMap.1 hm
    obtain ⟨us, sp, t, a1, _⟩ := h.i.ok.ow o ho b hob
    rw [h.m] at a1; cases a1
  refine ⟨⟨h.i.ok.back h'.ok, h'.sz, h'.df, h'.ev⟩, by rw [h'.ok.fr b hlt hn]; exact h.m, h.nw, ?_⟩
  cases hy : G'.Y b with
  | none => rfl
  | some ks =>
    have := (h'.ok.mz b ks hy).2 hlt
    rw [h.y] at this; cases this
theorem InvM.enter {K : Ctx} {G : Gh} {a : Act} {w : World} (h : InvM K N G st a w b es cl) : Inv ⟨w, keys st.M, G⟩ N G st a w := ⟨h.i.ok.enter, h.i.sz, h.i.df, h.i.ev⟩
theorem hcode_a (h : ACode P N x (fun e s => e = .normal ∧ HCode P N y R b es cl s) st) : HCode P N x (thenR P y R) b es cl st := fun K G a w hi => by
  refine wp_mono (h _ G a w hi.enter) ?_
  rintro e a' w' ⟨G', s, ⟨rfl, next⟩, i⟩
  exact next K G' a' w' (hi.back i)
theorem wpList_cons_of {Q1 Q2 : Exit → Act → World → Prop} {l : List Oper} {a : Act} {w : World} (h : wpList P ops Q1 [o] a w) (h1 : ∀ a w, Q1 .normal a w → wpList P ops Q2 l a w) (h2 : ∀ e a w, Q1 e a w → e = .normal) : wpList P ops Q2 (o :: l) a w := by
  have hlo : LetsOut Q1 → LetsOut Q2 := fun ⟨a0, w0, h0⟩ => by have := h2 _ _ _ h0; cases this
  simp only [wpList] at h ⊢
  split at h
  · rename_i hw
    rw [if_pos hw]
    rcases h with h | ⟨h3, h4⟩
    · refine .inl ?_
      unfold Oper.wp at h ⊢
      generalize (execOp a.eval o).run P w = r at h ⊢
      cases r with
      | ok n w' =>
        cases n <;> simp only [Oper.upon] at h ⊢ <;> first
          | exact h1 _ _ h
          | exact h
          | (refine Calls.mono h (fun e w'' he => ?_)
             cases e with
             | returned v => exact h1 _ _ he
             | panicked ch => have := h2 _ _ _ he; cases this
             | outgrown => exact hlo he)
          | exact Rows.mono h (fun _ _ he => h1 _ _ he)
      | halt e w' =>
        cases e <;> simp only [Oper.upon] at h ⊢
        have := h2 _ _ _ h; cases this
    · exact .inr ⟨h3, hlo h4⟩
  · rename_i hw
    rw [if_neg hw]
    exact h1 _ _ h
theorem gops_a {l : List Oper} (h : AOps P N ops [o] (fun e s => e = .normal ∧ GOps P N ops l R s) st) : GOps P N ops (o :: l) R st := fun K G a w hi =>
  wpList_cons_of (h K G a w hi) (by rintro a' w' ⟨G', s, ⟨_, next⟩, i⟩; exact next K G' a' w' i) (by rintro e a' w' ⟨G', s, ⟨rfl, _⟩, i⟩; rfl)
theorem hops_a {l : List Oper} (h : AOps P N ops [o] (fun e s => e = .normal ∧ HOps P N ops l R b es cl s) st) : HOps P N ops (o :: l) R b es cl st := fun K G a w hi =>
  wpList_cons_of (h _ G a w hi.enter) (by rintro a' w' ⟨G', s, ⟨_, next⟩, i⟩; exact next K G' a' w' (hi.back i)) (by rintro e a' w' ⟨G', s, ⟨rfl, _⟩, i⟩; rfl)
theorem hcode_cond {t : Tmp} {p : Prop} [Decidable p] (hb : get st.E t = .bool (decide p)) (h1 : p → HCode P N x R b es cl st) (h0 : ¬ p → HCode P N y R b es cl st) : HCode P N (.cond (.tmp t) x y) R b es cl st := fun K G a w hi => by
  have he := hi.i.ev t
  rw [hb] at he
  simp only [Rep] at he
  exact wp_cond_split (t := decide p) he (fun hb => h1 (of_decide_eq_true hb) K G a w hi) (fun hb => h0 (of_decide_eq_false hb) K G a w hi)
theorem hcode_exit {id : Nat} (h : ∀ K G a w, InvM K N G st a w b es cl → R K (.exit id) a w) : HCode P N (.exit id) R b es cl st := fun K G a w hi => wp_exit (h K G a w hi)
theorem hcode_loop {ι : Type} {c : Code} (S : ι → Env) (L : ι → List Ob) (X : ι → Array MapEntry × Nat) (m : ι → Nat) (I : ι → Prop) (i0 : ι) (h0 : I i0) (hE : subE (S i0) E) (hM : M = L i0) (hX : X i0 = (es, cl))
    (round : ∀ i, I i → HCode P N c (fun K => Exit.then (fun a w => ∃ j G E', I j ∧ m j < m i ∧ subE (S j) E' ∧ InvM K N G ⟨E', L j⟩ a w b (X j).1 (X j).2) (R K)) b (X i).1 (X i).2 ⟨S i, L i⟩) : HCode P N (.loop c) R b es cl ⟨E, M⟩ := by
  subst hM
  intro K G a w hi
  have hsub : ∀ {G : Gh} {a : Act} {w : World} {E E' : Env} {M : List Ob} {es cl}, subE E' E → InvM K N G ⟨E, M⟩ a w b es cl → InvM K N G ⟨E', M⟩ a w b es cl := fun h hi => ⟨inv_sub h hi.i, hi.m, hi.nw, hi.y⟩
  refine wp_loop_ghost (fun n a w => ∃ i G, I i ∧ m i = n ∧ InvM K N G ⟨S i, L i⟩ a w b (X i).1 (X i).2) (m i0) ⟨i0, G, h0, rfl, by rw [hX]; exact hsub hE hi⟩ ?_
  rintro n a w ⟨i, G, hI, rfl, hi⟩
  refine wp_mono (round i hI K G a w hi) ?_
  intro e a' w' h
  cases e with
  | normal =>
    obtain ⟨j, G', E', hj, hm, hs, hi'⟩ := h
    exact ⟨m j, hm, j, G', hj, rfl, hsub hs hi'⟩
  | _ => exact h
/-- A new map. -/
theorem gops_make {t d : Nat} (ho : o.op = .makeMap t none) (hg : guardOn ops o E = some true) (hd : o.dst = some d) (hN : Nat.blt d N = true)
    (next : ∀ b, HOps P N ops rest R b #[] 0 ⟨(d, .mr b) :: E, M⟩) : GOps P N ops (o :: rest) R ⟨E, M⟩ := by
  intro K G a w hi
  have hok : Ok K G M (w.alloc (.map #[] 0)) := by
    have k := hi.ok
    have ha : ∀ j, j < w.heap.size → (w.alloc (.map #[] 0)).heap[j]? = w.heap[j]? := (MapKept.heap_alloc w _).2
    refine ⟨k.g, k.os, k.tape, k.output, Nat.le_trans k.size (by simp), fun j h1 h2 => ?_, fun j hz => ?_, fun o ho j hj => ?_, k.vn, k.un, k.kb, k.nd, fun j ks e => ?_⟩
    · rw [ha j (Nat.lt_of_lt_of_le h1 k.size)]; exact k.fr j h1 h2
    · rw [ha j (k.zlt hz)]; exact k.fz j hz
    · rw [ha j (k.lt ho hj)]; exact k.ow o ho j hj
    · rw [ha j (k.ylt e)]; exact k.mz j ks e
  have hy : G.Y w.heap.size = none := by
    cases hy : G.Y w.heap.size with
    | none => rfl
    | some ks => exact absurd (hi.ok.ylt hy) (Nat.lt_irrefl _)
  have hrun : (execOp a.eval o).run P w = .ok (.value (.map (some w.heap.size))) (w.alloc (.map #[] 0)) := by
    simp [execOp, ho, Instr.makeMap]
  refine wpList_step fun Kn hK => ?_
  have hw : Region.wanted o (yielded ops a.tmps) = true := guard_spec hi hg
  rw [if_pos hw]
  unfold Oper.wp
  rw [hrun]
  simp only [Oper.upon]
  refine hK _ _ (next w.heap.size K G _ _ ⟨?_, (MapKept.heap_alloc w _).1, hi.ok.size, hy⟩)
  have := hi.put (G.le_refl) hok (d := o.dst) (by rw [hd]; exact hN) (x := .mr w.heap.size) (v := .map (some w.heap.size)) rfl
  rw [hd] at this ⊢
  exact this
theorem mapView_push {es : Array MapEntry} {ks : List (List Int)} {k : List Int} {c : Nat} (h : mapView es.toList = some ks) : mapView (es.push ⟨keyV k, .bool true, c⟩).toList = some (ks ++ [k]) := by
  rw [Array.toList_push]
  generalize es.toList = l at h ⊢
  induction l generalizing ks with
  | nil => simp [mapView] at h; subst h; simp [mapView, keyView_keyV]
  | cons e l ih =>
    simp only [mapView, List.cons_append] at h ⊢
    split at h
    · rename_i k1 h1 h2
      cases hm : mapView l with
      | none => simp [hm] at h
      | some ks' =>
        simp only [hm, Option.map_some, Option.some.injEq] at h
        subst h
        simp [ih hm]
    · cases h
theorem mapView_set {k : List Int} : ∀ {l : List MapEntry} {ks : List (List Int)} {j : Nat} {e : MapEntry}, mapView l = some ks → l[j]? = some e → e.key = keyV k → mapView (l.modify j fun e => { e with key := keyV k, val := .bool true }) = some ks
  | [], ks, j, e, h, hj, _ => by simp at hj
  | e0 :: l, ks, j, e, h, hj, he => by
    simp only [mapView] at h
    split at h
    · rename_i k1 h1 h2
      cases hm : mapView l with
      | none => simp [hm] at h
      | some ks' =>
        simp only [hm, Option.map_some, Option.some.injEq] at h
        subst h
        cases j with
        | zero =>
          simp at hj; subst hj
          have : k1 = k := by rw [he, keyView_keyV] at h1; exact (Option.some.inj h1).symm
          simp [mapView, keyView_keyV, hm, this]
        | succ j =>
          simp at hj
          have := mapView_set hm hj he
          simp [mapView, h1, h2, this]
    · cases h
theorem setObj_facts {w : World} {b : Nat} {o o' : Obj} (hb : w.heap[b]? = some o) : ({ w with heap := w.heap.setIfInBounds b o' } : World).heap[b]? = some o' ∧ ∀ k, k ≠ b → ({ w with heap := w.heap.setIfInBounds b o' } : World).heap[k]? = w.heap[k]? := MapKept.heap_set hb
theorem InvM.setm {K : Ctx} {G : Gh} {a : Act} {w : World} (h : InvM K N G st a w b es cl) (es' : Array MapEntry) (cl' : Nat) : InvM K N G st a { w with heap := w.heap.setIfInBounds b (.map es' cl') } b es' cl' := by
  obtain ⟨h1, h2⟩ := setObj_facts (o' := .map es' cl') h.m
  have k := h.i.ok
  have nb : ∀ o ∈ st.M, o.b ≠ some b := fun o ho hob => by
    obtain ⟨us, sp, t, a1, _⟩ := k.ow o ho b hob
    rw [h.m] at a1; cases a1
  refine ⟨⟨⟨k.g, k.os, k.tape, k.output, by simpa using k.size, fun j h3 h4 => ?_, fun j hz => ?_, fun o ho j hj => ?_, k.vn, k.un, k.kb, k.nd, fun j ks e => ?_⟩, h.i.sz, h.i.df, h.i.ev⟩, h1, h.nw, h.y⟩
  · rw [h2 j (by have := h.nw; omega)]; exact k.fr j h3 h4
  · rw [h2 j (by rintro rfl; obtain ⟨c, t, f, a1, _⟩ := k.fz j hz; rw [h.m] at a1; cases a1)]; exact k.fz j hz
  · rw [h2 j (by rintro rfl; exact nb o ho hj)]; exact k.ow o ho j hj
  · rw [h2 j (by rintro rfl; rw [h.y] at e; cases e)]; exact k.mz j ks e
theorem sameBits_ints (n : Nat) (k : List Int) : Instr.sameBits (n + 2) (keyV k) (keyV k) = true := by
  simp only [keyV, Instr.sameBits, Bool.and_eq_true, beq_self_eq_true, true_and, List.all_eq_true, List.toList_toArray]
  rintro ⟨u, v⟩ h
  have : u = v ∧ ∃ z, u = Value.int .i64 z := by
    obtain ⟨i, hi⟩ := List.getElem?_of_mem h
    rw [List.getElem?_zip_eq_some] at hi
    obtain ⟨h1, h2⟩ := hi
    rw [h1] at h2
    obtain ⟨z, hz, rfl⟩ := List.mem_map.1 (List.mem_of_getElem? h1)
    exact ⟨Option.some.inj h2, z, rfl⟩
  obtain ⟨rfl, z, rfl⟩ := this
  simp [Instr.sameBits]
/-- A row of numbers is said yes to. -/
theorem hops_upd (hT : TOk P T) {t n : Nat} {xm xk xv : Operand} {ks : List (List Int)} {k : List Int} (ho : o.op = .mapUpdate t xm xk xv) (ht : mapT T t n = true) (hm : opA E xm = .mr b) (hk : opA E xk = .agg (ints k)) (hv : opA E xv = .bool true)
    (hes : mapView es.toList = some ks) (hn : ∀ x ∈ ks, x.length = n) (hkn : k.length = n) (hg : guardOn ops o E = some true) (hd : o.dst = none)
    (next : ∀ es' cl', mapView es'.toList = some (if k ∈ ks then ks else ks ++ [k]) → HOps P N ops rest R b es' cl' ⟨E, M⟩) : HOps P N ops (o :: rest) R b es cl ⟨E, M⟩ := by
  intro K G a w hi
  have r1 := opA_rep hi.i xm
  have r2 := opA_rep hi.i xk
  have r3 := opA_rep hi.i xv
  rw [hm] at r1; rw [hk] at r2; rw [hv] at r3
  simp only [Rep] at r1 r3
  obtain ⟨vs, e2, hl⟩ := r2
  have e3 := ints_value hl
  subst e3
  obtain ⟨kt, et, h1, h2, h3, x, h4⟩ := mapT_spec hT ht
  obtain ⟨e, h5, h6, h7⟩ := id h2.e
  have hc := run_checkInts (P := P) w false 9998 kt e n .i64 h5 h6 h7 k hkn
  have hf := run_findKey_eq (P := P) w (k := kt) (by rw [h4]) (keyV k) es.toList
  have done : ∀ es' cl', (Instr.mapUpdate t (.map (some b)) (keyV k) (.bool true)).run P w = .ok () { w with heap := w.heap.setIfInBounds b (.map es' cl') } → mapView es'.toList = some (if k ∈ ks then ks else ks ++ [k]) → wpList P ops (R K) (o :: rest) a w := by
    intro es' cl' hrun a1
    have hr : (execOp a.eval o).run P w = .ok .skip { w with heap := w.heap.setIfInBounds b (.map es' cl') } := by
      simp only [execOp, ho, r1, e2, r3, Sem.run_bind, show (Value.agg (List.map (Value.int IntKind.i64) k).toArray) = keyV k from rfl, hrun, Result.andThen_ok]
      rfl
    refine wpList_step fun Kn hK => ?_
    have hw : Region.wanted o (yielded ops a.tmps) = true := guard_spec hi.i hg
    rw [if_pos hw]
    unfold Oper.wp
    rw [hr]
    simp only [Oper.upon]
    rw [hd]
    exact hK _ _ (next es' cl' a1 K G a _ (hi.setm es' cl'))
  rcases run_askInts w h2 k hkn es.toList ks 0 hes hn with ⟨a1, j, e', a2, a3, a4⟩ | ⟨a1, a2⟩
  · refine done (es.modify j fun e => { e with key := keyV k, val := .bool true }) cl ?_ ?_
    · unfold Instr.mapUpdate
      simp only [Sem.run_bind, run_underlying h1, Result.andThen_ok, MapKept.run_getObj_map hi.m, Sem.run_pure]
      rw [show (Instr.checkKey false 10000 kt (keyV k)).run P w = .ok () w from hc]
      have ej : es[j]? = some e' := by simpa using a3
      simp only [Result.andThen_ok, hf, a2, Nat.zero_add, ej, Option.map_some, Option.getD_some, a4, Instr.keyThatStays, sameBits_ints 9998 k, if_true, Sem.run_pure, Sem.run_bind, MapKept.run_setObj_map _ hi.m]
    · rw [if_pos a1]
      have ej : es[j]? = some e' := by simpa using a3
      have := mapView_set hes (by simpa using ej) a4
      rw [Array.toList_modify]
      exact this
  · refine done (es.push ⟨keyV k, .bool true, cl⟩) (cl + 1) ?_ (by rw [if_neg a1]; exact mapView_push hes)
    unfold Instr.mapUpdate
    simp only [Sem.run_bind, run_underlying h1, Result.andThen_ok, MapKept.run_getObj_map hi.m, Sem.run_pure]
    rw [show (Instr.checkKey false 10000 kt (keyV k)).run P w = .ok () w from hc]
    simp only [Result.andThen_ok, hf, a2, Sem.run_bind, MapKept.run_setObj_map _ hi.m]
/-- The map is read alone from now on. -/
theorem hcode_freeze {t : Nat} {ks : List (List Int)} (hes : mapView es.toList = some ks) (ht : get E t = .mr b) (next : GCode P N x R ⟨(t, .mp ks) :: E, M⟩) : HCode P N x R b es cl ⟨E, M⟩ := by
  intro K G a w hi
  let G' : Gh := ⟨G.Z, fun j => if j = b then some ks else G.Y j⟩
  have yb : G'.Y b = some ks := if_pos rfl
  have yo : ∀ j, j ≠ b → G'.Y j = G.Y j := fun j h => if_neg h
  have hle : G.le G' := ⟨fun _ => List.prefix_refl _, fun j l e => by
    by_cases h : j = b
    · subst h; rw [hi.y] at e; cases e
    · rw [yo j h]; exact e⟩
  have k := hi.i.ok
  refine next K G' a w ⟨⟨Gh.le_trans k.g hle, k.os, k.tape, k.output, k.size, k.fr, k.fz, fun o ho j hj => ?_, k.vn, k.un, k.kb, k.nd, fun j l e => ?_⟩, hi.i.sz, hi.i.df, fun s => ?_⟩
  · obtain ⟨us, sp, t, a1, a2, a3⟩ := k.ow o ho j hj
    exact ⟨us, sp, t, a1, a2.mono hle, a3⟩
  · by_cases h : j = b
    · subst h
      rw [yb] at e; cases e
      exact ⟨⟨es, cl, hi.m, hes⟩, fun hlt => by have := hi.nw; omega⟩
    · rw [yo j h] at e; exact k.mz j l e
  · simp only [get]
    cases hs : Nat.beq t s with
    | true =>
      obtain rfl := Nat.eq_of_beq_eq_true hs
      have := hi.i.ev t
      rw [ht] at this
      exact ⟨b, this, yb⟩
    | false => exact (hi.i.ev s).mono hle _ _
theorem hops_endb {id : Nat} (h : HCode P N y R b es cl st) : HOps P N ops [] (blockR id (thenR P y R)) b es cl st := fun K G a w hi => wpList_nil (h K G a w hi)
theorem hops_fin (h : ∀ K G a w, InvM K N G st a w b es cl → R K .normal a w) : HOps P N ops [] R b es cl st := fun K G a w hi => wpList_nil (h K G a w hi)
/-- Out of a loop in a block, and on behind it. -/
theorem hcode_exit_on {id : Nat} {Z : Ctx → Act → World → Prop} {y' : Code} (h : HCode P N y R b es cl st) : HCode P N (.exit id) (thenR P y' (fun K => Exit.then (Z K) (blockR id (thenR P y R) K))) b es cl st := fun K G a w hi => by
  refine wp_exit ?_
  show (if id = id then _ else _)
  rw [if_pos rfl]
  exact h K G a w hi
/-- The map is nobody's any more. -/
theorem hops_forget {l : List Oper} (next : GOps P N ops l R st) : HOps P N ops l R b es cl st := fun K G a w hi => next K G a w hi.i
end
end Go.Proofs.Ytnlmfhnjjblhoaa.Ab
/- Chapter 23's set of what is forbidden: the walk. No condition. -/
set_option linter.unusedVariables false
set_option linter.unusedSimpArgs false
namespace Go.Proofs.Ytnlmfhnjjblhoaa.Ab
attribute [local irreducible] thenA inBlockA ACode AOps put IntKind.wrap

def l3 (f : Int × Int × Int) : List Int := [f.1, f.2.1, f.2.2]
theorem l3_inj {f f' : Int × Int × Int} (h : l3 f = l3 f') : f = f' := by
  obtain ⟨a, b, c⟩ := f; obtain ⟨a', b', c'⟩ := f'
  simp only [l3, List.cons.injEq, and_true] at h
  obtain ⟨rfl, rfl, rfl⟩ := h; rfl
/-- What is forbidden, as a map. -/
def SetOf (l : List (Int × Int × Int)) (ks : List (List Int)) : Prop := (∀ x ∈ ks, x.length = 3) ∧ ∀ f, l3 f ∈ ks ↔ f ∈ l
def setF (l : List (Int × Int × Int)) : List (List Int) := l.foldl (fun ks f => if l3 f ∈ ks then ks else ks ++ [l3 f]) []
theorem setF_add {l : List (Int × Int × Int)} {i : Nat} {f : Int × Int × Int} (h : l[i]? = some f) : setF (l.take (i + 1)) = if l3 f ∈ setF (l.take i) then setF (l.take i) else setF (l.take i) ++ [l3 f] := by
  unfold setF
  rw [List.take_add_one, h, List.foldl_append]; rfl
theorem setF_of (l : List (Int × Int × Int)) : SetOf l (setF l) := by
  suffices h : ∀ (l m : List (Int × Int × Int)) (ks : List (List Int)), SetOf m ks → SetOf (m ++ l) (l.foldl (fun ks f => if l3 f ∈ ks then ks else ks ++ [l3 f]) ks) by
    have := h l [] [] ⟨by simp, by simp⟩
    rw [List.nil_append] at this
    exact this
  intro l
  induction l with
  | nil => intro m ks h; rw [List.append_nil]; exact h
  | cons f l ih =>
    intro m ks h
    have := ih (m ++ [f]) (if l3 f ∈ ks then ks else ks ++ [l3 f]) ?_
    · rw [List.append_assoc] at this; exact this
    · split
      · rename_i hm
        refine ⟨h.1, fun f' => ?_⟩
        rw [h.2]
        simp only [List.mem_append, List.mem_singleton]
        exact ⟨.inl, fun h2 => h2.elim id fun e => by rw [e]; exact (h.2 f).1 hm⟩
      · refine ⟨fun x hx => ?_, fun f' => ?_⟩
        · rcases List.mem_append.1 hx with hx | hx
          · exact h.1 x hx
          · simp only [List.mem_singleton] at hx; subst hx; rfl
        · simp only [List.mem_append, List.mem_singleton, h.2]
          exact ⟨fun h2 => h2.imp id l3_inj, fun h2 => h2.imp id fun e => by rw [e]⟩
theorem f3_at {l : List (Int × Int × Int)} {i : Nat} {x : Int × Int × Int} (h : l[i]? = some x) : f3C x <+: (encs f3C l).drop (i * 3) := encs_at (e := f3C) (s := 3) (fun _ => rfl) h

set_option maxHeartbeats 1000000 in
theorem fset_calls {g : Gr} (hf : g.forbid.length ≤ 9223372036854775807) (M : List Ob) : ACalls Try.prog 52 [grA g] M (fun r M' => r = .mp (setF g.forbid) ∧ M' = M) := by
  refine acalls_of_code 18 Try.func52 rfl rfl rfl ?_
  refine acode_seq ?_
  refine acode_region ?_
  refine aops_boxf rfl rfl rfl rfl rfl rfl rfl ?_
  repeat (refine aops_p tok rfl rfl rfl rfl ?_)
  refine aops_end ?_
  refine acode_of_g (gcode_seq (gcode_region (gops_make rfl rfl rfl rfl fun b => ?_)))
  refine hops_a ?_
  repeat (refine aops_p tok rfl rfl rfl rfl ?_)
  refine aops_nil ⟨rfl, ?_⟩
  refine hops_end ?_
  refine hcode_seq (hcode_seq ?_)
  refine hcode_a ?_
  refine acode_region ?_
  repeat (refine aops_p tok rfl rfl rfl rfl ?_)
  refine aops_nil ⟨rfl, ?_⟩
  refine hcode_block ?_
  refine hcode_loop (ι := Nat × Array MapEntry × Nat) (fun p => [(3, .mr b), (8, .psl g.forbid.length (encs f3C g.forbid)), (9, .int .i64 g.forbid.length), (10, .int .i64 p.1)]) (fun _ => M) (fun p => (p.2.1, p.2.2)) (fun p => g.forbid.length - p.1)
    (fun p => p.1 ≤ g.forbid.length ∧ mapView p.2.1.toList = some (setF (g.forbid.take p.1))) (0, #[], 0) ⟨Nat.zero_le _, rfl⟩ ⟨rfl, rfl, rfl, rfl, trivial⟩ rfl rfl ?_
  rintro ⟨i, es, cl⟩ ⟨hi, hv⟩
  simp only at hi hv ⊢
  refine hcode_seq ?_
  refine hcode_a ?_
  refine acode_region ?_
  repeat (refine aops_p tok rfl rfl rfl rfl ?_)
  refine aops_nil ⟨rfl, ?_⟩
  refine hcode_seq (hcode_cond rfl (fun e => ?_) (fun e => ?_))
  · have hlt : i < g.forbid.length := by omega
    obtain ⟨f, hff⟩ : ∃ f, g.forbid[i]? = some f := ⟨g.forbid[i], List.getElem?_eq_getElem hlt⟩
    refine hcode_skip (hcode_seq (hcode_block (hcode_seq ?_)))
    refine hcode_a ?_
    refine acode_region ?_
    refine aops_ix tok (f3C f) rfl rfl rfl rfl (by omega) (by omega) (by simp [f3C]) (f3_at hff) rfl rfl rfl ?_
    repeat (refine aops_p tok rfl rfl rfl rfl ?_)
    refine aops_alloc tok rfl rfl rfl rfl rfl rfl fun bf => ?_
    refine aops_stn tok rfl rfl rfl rfl rfl rfl rfl rfl rfl ?_
    refine aops_pubref0 5 rfl ?_
    refine aops_nil ⟨rfl, ?_⟩
    refine hcode_region ?_
    refine hops_a ?_
    repeat (refine aops_p tok rfl rfl rfl rfl ?_)
    refine aops_nil ⟨rfl, ?_⟩
    refine hops_a ?_
    repeat (refine aops_p tok rfl rfl rfl rfl ?_)
    refine aops_nil ⟨rfl, ?_⟩
    refine hops_upd tok (k := l3 f) rfl rfl rfl rfl rfl hv (setF_of _).1 rfl rfl rfl fun es' cl' h1 => ?_
    refine hops_endb (hcode_region ?_)
    refine hops_a ?_
    repeat (refine aops_a tok rfl (by omega) (by omega) rfl rfl rfl ?_)
    refine aops_nil ⟨rfl, ?_⟩
    refine hops_a ?_
    repeat (refine aops_p tok rfl rfl rfl rfl ?_)
    refine aops_nil ⟨rfl, ?_⟩
    refine hops_fin fun K G a w hi' => ⟨(i + 1, es', cl'), G, _, ⟨by simp; omega, by rw [h1, setF_add hff]⟩, by simp; omega, ⟨rfl, rfl, rfl, rfl, trivial⟩, hi'⟩
  · have hge : i = g.forbid.length := by omega
    subst hge
    rw [List.take_length] at hv
    refine hcode_exit_on ?_
    refine hcode_freeze (t := 3) hv rfl ?_
    refine gcode_of_a ?_
    repeat (first | refine aops_end ?_ | refine aops_p tok rfl rfl rfl rfl ?_ | refine acode_seq ?_ | refine acode_region ?_)
    refine acode_ret ?_
    skip
    exact ⟨_, ⟨rfl, rfl⟩, resOf_tmp rfl⟩
end Go.Proofs.Ytnlmfhnjjblhoaa.Ab
/- How many trees of a forest may be, in plain terms. No condition. -/
set_option linter.unusedVariables false
set_option linter.unusedSimpArgs false
namespace Go.Proofs.Ytnlmfhnjjblhoaa.Ab

/-- Of a node's Alts those that may stand at a place of a rule. -/
def kidGo (fb : List F3) (r p : Int) : List Al → List Int → Int → Int
  | a :: aS, t :: ts, n => kidGo fb r p aS ts (if (r, p, a.rule) ∈ fb then n else addN n t)
  | _, _, n => n
def altGo (fb : List F3) (f : Fo) (g : Nat → List Int) (r : Int) : Nat → List Int → Int → Int
  | _, [], n => n
  | p, k :: ks, n => altGo fb f g r (p + 1) ks (if 0 ≤ k then mulN n (kidGo fb r p (altsOf f k.toNat) (g k.toNat) 0) else n)
def nodeG (fb : List F3) (f : Fo) (g : Nat → List Int) (i : Nat) : List Int := (altsOf f i).map fun a => altGo fb f g a.rule 0 a.kids 1
theorem altGo_congr {fb : List F3} {f : Fo} {g h : Nat → List Int} {r : Int} : ∀ (ks : List Int) (p : Nat) (n : Int), (∀ k : Nat, (k : Int) ∈ ks → g k = h k) → altGo fb f g r p ks n = altGo fb f h r p ks n
  | [], _, _, _ => rfl
  | k :: ks, p, n, hk => by
    have e : (if 0 ≤ k then mulN n (kidGo fb r p (altsOf f k.toNat) (g k.toNat) 0) else n) = (if 0 ≤ k then mulN n (kidGo fb r p (altsOf f k.toNat) (h k.toNat) 0) else n) := by
      split
      · rename_i h0; rw [hk k.toNat (by rw [Int.toNat_of_nonneg h0]; simp)]
      · rfl
    simp only [altGo, e]
    exact altGo_congr ks _ _ fun k hm => hk k (by simp [hm])
theorem nodeG_congr {fb : List F3} {f : Fo} {g h : Nat → List Int} {i : Nat} (hk : ∀ k : Nat, Kid f i k → g k = h k) : nodeG fb f g i = nodeG fb f h i := by
  unfold nodeG
  refine List.map_congr_left fun a ha => altGo_congr _ _ _ fun k hm => hk k ⟨a, ha, hm⟩
theorem ftr_ex (fb : List F3) (f : Fo) : ∃ T : Nat → List Int, ∀ i, WF f i → T i = nodeG fb f T i := recT (nodeG fb f) fun g h i hk => nodeG_congr hk
noncomputable def ftr (fb : List F3) (f : Fo) : Nat → List Int := Classical.choose (ftr_ex fb f)
theorem ftr_eq {fb : List F3} {f : Fo} {i : Nat} (h : WF f i) : ftr fb f i = nodeG fb f (ftr fb f) i := Classical.choose_spec (ftr_ex fb f) i h
theorem ftr_len {fb : List F3} {f : Fo} {i : Nat} (h : WF f i) : (ftr fb f i).length = (altsOf f i).length := by rw [ftr_eq h]; simp [nodeG]
theorem kidGo_is {fb : List F3} {r p : Int} : ∀ (aS : List Al) (ts : List Int) (n : Int), isN n → (∀ t ∈ ts, isN t) → isN (kidGo fb r p aS ts n)
  | [], _, n, h, _ => by simpa [kidGo] using h
  | _ :: _, [], n, h, _ => by simpa [kidGo] using h
  | a :: aS, t :: ts, n, h, ht => by
    simp only [kidGo]
    refine kidGo_is aS ts _ ?_ fun t hm => ht t (by simp [hm])
    split
    · exact h
    · exact addN_is h (ht t (by simp))
theorem altGo_is {fb : List F3} {f : Fo} {g : Nat → List Int} {r : Int} : ∀ (ks : List Int) (p : Nat) (n : Int), isN n → (∀ k : Nat, (k : Int) ∈ ks → ∀ t ∈ g k, isN t) → isN (altGo fb f g r p ks n)
  | [], _, _, h, _ => h
  | k :: ks, p, n, h, hk => by
    simp only [altGo]
    refine altGo_is ks _ _ ?_ fun k hm => hk k (by simp [hm])
    split
    · rename_i h0; exact mulN_is h (kidGo_is _ _ _ ⟨by decide, by decide⟩ (hk k.toNat (by rw [Int.toNat_of_nonneg h0]; simp)))
    · exact h
theorem ftr_is {fb : List F3} {f : Fo} {i : Nat} (h : WF f i) : ∀ t ∈ ftr fb f i, isN t := by
  induction h with
  | @mk i hi hk hs ih =>
    rw [ftr_eq (.mk hi hk hs)]
    intro t ht
    obtain ⟨a, ha, rfl⟩ := List.mem_map.1 ht
    exact altGo_is _ _ _ ⟨by decide, by decide⟩ fun k hm => ih k ⟨a, ha, hm⟩
def sumN (l : List Int) : Int := l.foldl addN 0
theorem foldl_addN_is : ∀ (l : List Int) (n : Int), isN n → (∀ t ∈ l, isN t) → isN (l.foldl addN n)
  | [], _, h, _ => h
  | t :: l, n, h, hl => foldl_addN_is l _ (addN_is h (hl t (by simp))) fun t hm => hl t (by simp [hm])
theorem sumN_is {l : List Int} (h : ∀ t ∈ l, isN t) : isN (sumN l) := foldl_addN_is l 0 ⟨by decide, by decide⟩ h
/-! ### without anything forbidden -/
theorem kidGo_none {r p : Int} : ∀ (aS : List Al) (ts : List Int) (n : Int), aS.length = ts.length → kidGo [] r p aS ts n = ts.foldl addN n
  | [], [], n, _ => rfl
  | [], _ :: _, n, h => by simp at h
  | _ :: _, [], n, h => by simp at h
  | a :: aS, t :: ts, n, h => by
    simp only [kidGo, List.not_mem_nil, if_false, List.foldl_cons]
    exact kidGo_none aS ts _ (by simpa using h)
theorem altGo_none {f : Fo} {g : Nat → List Int} {T : Nat → Int} {r : Int} : ∀ (ks : List Int) (p : Nat) (n : Int), (∀ k : Nat, (k : Int) ∈ ks → (g k).length = (altsOf f k).length ∧ sumN (g k) = T k) → altGo [] f g r p ks n = altF T n ks
  | [], _, _, _ => rfl
  | k :: ks, p, n, hk => by
    simp only [altGo, altF, List.foldl_cons]
    rw [altGo_none ks _ _ fun k hm => hk k (by simp [hm])]
    congr 1
    split
    · rename_i h0
      obtain ⟨h1, h2⟩ := hk k.toNat (by rw [Int.toNat_of_nonneg h0]; simp)
      rw [kidGo_none _ _ _ h1.symm, ← h2]; rfl
    · rfl
theorem ftr_none {f : Fo} {i : Nat} (h : WF f i) : sumN (ftr [] f i) = trees f i := by
  induction h with
  | @mk i hi hk hs ih =>
    rw [ftr_eq (.mk hi hk hs), trees_eq (.mk hi hk hs)]
    have : ∀ (l : List Al) (n : Int), (∀ a ∈ l, a ∈ altsOf f i) → (l.map fun a => altGo [] f (ftr [] f) a.rule 0 a.kids 1).foldl addN n = altsF (trees f) n l := by
      intro l
      induction l with
      | nil => intro n _; rfl
      | cons a l ih2 =>
        intro n hl
        simp only [List.map_cons, List.foldl_cons, altsF]
        rw [altGo_none (T := trees f) a.kids 0 1 fun k hm => ⟨ftr_len (hs k ⟨a, hl a (by simp), hm⟩), ih k ⟨a, hl a (by simp), hm⟩⟩]
        exact ih2 _ fun b hb => hl b (by simp [hb])
    exact this (altsOf f i) 0 fun a h => h
end Go.Proofs.Ytnlmfhnjjblhoaa.Ab
/- Chapter 23: how many trees may be: the walk. No condition. -/
set_option linter.unusedVariables false
set_option linter.unusedSimpArgs false
namespace Go.Proofs.Ytnlmfhnjjblhoaa.Ab
attribute [local irreducible] thenA inBlockA ACode AOps put IntKind.wrap

abbrev fkM (f : Fo) (ks : List (List Int)) (b bs : Nat) (cells : List A) (M : List Ob) : List Ob :=
  ⟨some bs, f.nodes.length * 1, cells⟩ :: ⟨some b, 4, [.psl f.nodes.length (encs ndC f.nodes), .int .i64 f.root, .mp ks, .own (some bs) f.nodes.length f.nodes.length]⟩ :: M
theorem kidGo_step {fb : List F3} {r p : Int} {al : List Al} {ts : List Int} {i : Nat} {a : Al} {t n : Int} (ha : al[i]? = some a) (ht : ts[i]? = some t) :
    kidGo fb r p (al.drop i) (ts.drop i) n = kidGo fb r p (al.drop (i + 1)) (ts.drop (i + 1)) (if (r, p, a.rule) ∈ fb then n else addN n t) := by
  have e1 : al.drop i = a :: al.drop (i + 1) := by
    obtain ⟨h, rfl⟩ := List.getElem?_eq_some_iff.1 ha
    exact List.drop_eq_getElem_cons h
  have e2 : ts.drop i = t :: ts.drop (i + 1) := by
    obtain ⟨h, rfl⟩ := List.getElem?_eq_some_iff.1 ht
    exact List.drop_eq_getElem_cons h
  rw [e1, e2]; rfl
set_option maxHeartbeats 2000000 in
theorem fkid_calls {f : Fo} {fb : List F3} {ks : List (List Int)} (hs : SetOf fb ks) (hf : FoOk f) {b bs : Nat} {cells : List A} {r p : Int} {k : Nat} (hk : k < f.nodes.length) {ts : List Int} (hc : cells[k]? = some (.psl ts.length (ints ts))) (hl : ts.length = (altsOf f k).length) (hts : ∀ t ∈ ts, isN t) (M : List Ob) :
    ACalls Try.prog 73 [.ref b 0, .int .i64 r, .int .i64 p, .int .i64 k] (fkM f ks b bs cells M) (fun x M' => x = .int .i64 (kidGo fb r p (altsOf f k) ts 0) ∧ M' = fkM f ks b bs cells M) := by
  obtain ⟨hf1, hf2⟩ := hf
  obtain ⟨nd, hnd, hndm, hal⟩ := nodes_at hk
  obtain ⟨hal1, hal2⟩ := hf2 nd hndm
  rw [hal] at hl ⊢
  refine acalls_of_code 52 Try.func73 rfl rfl rfl ?_
  repeat (first | refine aops_end ?_ | refine aops_p tok rfl rfl rfl rfl ?_ | refine aops_ld tok 1 rfl rfl rfl rfl rfl rfl rfl rfl ?_ | refine acode_seq ?_ | refine acode_region ?_)
  refine aops_ix tok (ndC nd) rfl rfl rfl rfl (by omega) (by omega) (by simp [ndC]) (nd_at hnd) rfl rfl rfl ?_
  repeat (first | refine aops_end ?_ | refine aops_p tok rfl rfl rfl rfl ?_ | refine acode_block ?_)
  refine acode_loopS (ι := Nat × Int) (fun q => [(0, .ref b 0), (1, .int .i64 r), (2, .int .i64 p), (3, .int .i64 k), (20, .psl nd.alts.length (encs alC nd.alts)), (21, .int .i64 nd.alts.length), (22, .int .i64 q.1), (9, .int .i64 q.2)]) (fun _ => fkM f ks b bs cells M) (fun q => nd.alts.length - q.1) (fun q => q.1 ≤ nd.alts.length ∧ isN q.2 ∧ kidGo fb r p (nd.alts.drop q.1) (ts.drop q.1) q.2 = kidGo fb r p nd.alts ts 0) (0, 0) ⟨Nat.zero_le _, ⟨by decide, by decide⟩, rfl⟩ ⟨rfl, rfl, rfl, rfl, rfl, rfl, rfl, rfl, trivial⟩ rfl ?_
  rintro ⟨i, n⟩ ⟨hi, hn, hgo⟩
  simp only at hi hn hgo ⊢
  repeat (first | refine aops_end ?_ | refine aops_p tok rfl rfl rfl rfl ?_ | refine acode_seq ?_ | refine acode_region ?_)
  refine acode_id rfl (fun e => ?_) (fun e => ?_)
  · have hil : i < nd.alts.length := by omega
    obtain ⟨a, ha⟩ : ∃ a, nd.alts[i]? = some a := ⟨nd.alts[i], List.getElem?_eq_getElem hil⟩
    obtain ⟨t, ht⟩ : ∃ t, ts[i]? = some t := ⟨ts[i]'(by omega), List.getElem?_eq_getElem (by omega)⟩
    have htn := hts t (List.mem_of_getElem? ht)
    rw [kidGo_step ha ht] at hgo
    repeat (first | refine aops_p tok rfl rfl rfl rfl ?_ | refine acode_seq ?_ | refine acode_region ?_ | refine acode_block ?_ | refine acode_skip ?_ | refine then_n ?_)
    refine aops_ix tok (alC a) rfl rfl rfl rfl (by omega) (by omega) (by simp [alC]) (al_at ha) rfl rfl rfl ?_
    repeat (refine aops_p tok rfl rfl rfl rfl ?_)
    refine aops_alloc tok rfl rfl rfl rfl rfl rfl fun ba => ?_
    repeat (first | refine aops_end ?_ | refine aops_p tok rfl rfl rfl rfl ?_ | refine aops_stn tok rfl rfl rfl rfl rfl rfl rfl rfl rfl ?_ | refine acode_seq ?_)
    refine acode_pubref0 11 rfl ?_
    refine acode_drawT 11 mixed (by kernel_rfl) (by kernel_rfl) ?_
    repeat (first | refine seqT_p tok rfl rfl rfl rfl ?_ | refine seqT_ld tok 1 rfl rfl rfl rfl rfl rfl rfl rfl ?_)
    refine seqT_y (yields_look tok (k := l3 (r, p, a.rule)) rfl rfl rfl rfl hs.1 rfl rfl rfl) rfl ?_
    by_cases hm : (r, p, a.rule) ∈ fb
    · rw [decide_eq_true ((hs.2 (r, p, a.rule)).2 hm)]
      rw [if_pos hm] at hgo
      repeat (refine seqT_p tok rfl rfl rfl rfl ?_)
      refine SeqT.done ?_
      repeat' (first | refine aops_end ?_ | refine aops_a tok rfl (by omega) (by omega) rfl rfl rfl ?_ | refine aops_p tok rfl rfl rfl rfl ?_ | refine acode_if rfl ?_ | refine acode_region ?_ | refine acode_skip ?_ | refine then_n ?_ | refine block_n ?_)
      exact ⟨(i + 1, n), ⟨by simp; omega, hn, hgo⟩, by simp; omega, ⟨rfl, rfl, rfl, rfl, rfl, rfl, rfl, rfl, trivial⟩, rfl⟩
    · rw [decide_eq_false (fun h => hm ((hs.2 (r, p, a.rule)).1 h))]
      rw [if_neg hm] at hgo
      repeat (refine seqT_p tok rfl rfl rfl rfl ?_)
      refine SeqT.done ?_
      repeat' (first | refine aops_end ?_ | refine aops_p tok rfl rfl rfl rfl ?_ | refine acode_it rfl ?_ | refine aops_ld tok 1 rfl rfl rfl rfl rfl rfl rfl rfl ?_ | refine acode_region ?_)
      refine aops_ixo tok rfl rfl rfl rfl (by omega) (by omega) rfl rfl rfl ?_
      refine aops_ld tok 0 (y := .psl ts.length (ints ts)) rfl rfl rfl rfl (by rw [headed_eq]; show cells[k * 1]? = _; rw [Nat.mul_one]; exact hc) rfl rfl rfl ?_
      repeat (refine aops_p tok rfl rfl rfl rfl ?_)
      refine aops_ix tok [A.int .i64 t] rfl rfl rfl rfl (by omega) (by omega) (by simp) (ints_at (j := i) (by simpa using ht)) rfl rfl rfl ?_
      repeat (refine aops_p tok rfl rfl rfl rfl ?_)
      refine aops_callx Try.func54 rfl rfl rfl rfl (add_calls hn htn _) rfl rfl rfl ?_
      repeat (first | refine aops_end ?_ | refine aops_endb ?_ | refine aops_a tok rfl (by omega) (by omega) rfl rfl rfl ?_ | refine aops_p tok rfl rfl rfl rfl ?_ | refine acode_region ?_ | refine then_n ?_)
      exact ⟨(i + 1, addN n t), ⟨by simp; omega, addN_is hn htn, hgo⟩, by simp; omega, ⟨rfl, rfl, rfl, rfl, rfl, rfl, rfl, rfl, trivial⟩, rfl⟩
  · have hge : i = nd.alts.length := by omega
    subst hge
    rw [List.drop_length] at hgo
    have hgo : n = kidGo fb r p nd.alts ts 0 := hgo
    refine acode_exit ?_
    repeat (first | refine exit_then ?_ | refine exit_here ?_ | refine then_n ?_)
    repeat (first | refine aops_end ?_ | refine aops_p tok rfl rfl rfl rfl ?_ | refine acode_seq ?_ | refine acode_region ?_)
    refine acode_ret ?_
    skip
    exact ⟨.int .i64 n, ⟨by rw [hgo], rfl⟩, resOf_tmp rfl⟩
end Go.Proofs.Ytnlmfhnjjblhoaa.Ab
/- Chapter 23: how many trees may be: the walk over nodes. No condition. -/
set_option linter.unusedVariables false
set_option linter.unusedSimpArgs false
namespace Go.Proofs.Ytnlmfhnjjblhoaa.Ab
attribute [local irreducible] thenA inBlockA ACode AOps put IntKind.wrap

def cellsT (g : Nat → List Int) (n : Nat) (l : List Nat) : List A := (List.range n).map fun j => if j ∈ l then .psl (g j).length (ints (g j)) else .nils
theorem cellsT_len (g : Nat → List Int) (n : Nat) (l : List Nat) : (cellsT g n l).length = n := by simp [cellsT]
theorem cellsT_in {g : Nat → List Int} {n : Nat} {l : List Nat} {j : Nat} (hj : j < n) (h : j ∈ l) : (cellsT g n l)[j]? = some (.psl (g j).length (ints (g j))) := by
  simp [cellsT, List.getElem?_range hj, h]
theorem cellsT_out {g : Nat → List Int} {n : Nat} {l : List Nat} {j : Nat} (hj : j < n) (h : j ∉ l) : (cellsT g n l)[j]? = some .nils := by
  simp [cellsT, List.getElem?_range hj, h]
theorem cellsT_add {g : Nat → List Int} {n : Nat} {l : List Nat} {j : Nat} : (cellsT g n l).set j (.psl (g j).length (ints (g j))) = cellsT g n (l ++ [j]) := by
  refine List.ext_getElem? fun k => ?_
  rw [List.getElem?_set]
  by_cases hk : k < n
  · by_cases h : j = k
    · subst h
      rw [if_pos rfl, cellsT_len, if_pos hk, cellsT_in hk (by simp)]
    · have : k ≠ j := fun e => h e.symm
      rw [if_neg h]
      by_cases hl : k ∈ l
      · rw [cellsT_in hk hl, cellsT_in hk (by simp [hl])]
      · rw [cellsT_out hk hl, cellsT_out hk (by simp [hl, this])]
  · have e1 : (cellsT g n l)[k]? = none := List.getElem?_eq_none (by rw [cellsT_len]; omega)
    have e2 : (cellsT g n (l ++ [j]))[k]? = none := List.getElem?_eq_none (by rw [cellsT_len]; omega)
    rw [e1, e2, cellsT_len]
    by_cases h : j = k
    · rw [if_pos h, if_neg (by omega)]
    · rw [if_neg h]
theorem fset_at {cells : List A} {i k : Nat} {x y : A} (h : cells[k]? = some y) (hne : i ≠ k) : (cells.set i x)[k]? = some y := by
  rw [List.getElem?_set, if_neg hne]; exact h
theorem set_same {cells : List A} {i : Nat} {x : A} (h : i < cells.length) : (cells.set i x)[i]? = some x := by
  rw [List.getElem?_set, if_pos rfl, if_pos h]
theorem take_snoc {l : List Int} {i : Nat} {x : Int} (h : l[i]? = some x) : l.take (i + 1) = l.take i ++ [x] := by
  rw [List.take_add_one, h]; rfl
theorem altGo_step {fb : List F3} {f : Fo} {g : Nat → List Int} {r : Int} {p : Nat} {ks : List Int} {k n : Int} (h : ks[p]? = some k) :
    altGo fb f g r p (ks.drop p) n = altGo fb f g r (p + 1) (ks.drop (p + 1)) (if 0 ≤ k then mulN n (kidGo fb r p (altsOf f k.toNat) (g k.toNat) 0) else n) := by
  have e1 : ks.drop p = k :: ks.drop (p + 1) := by
    obtain ⟨h2, rfl⟩ := List.getElem?_eq_some_iff.1 h
    exact List.drop_eq_getElem_cons h2
  rw [e1]; rfl

set_option maxHeartbeats 4000000 in
theorem fnode_calls {f : Fo} {fb : List F3} {ks : List (List Int)} (hs : SetOf fb ks) (hf : FoOk f) {b bs : Nat} {l : List Nat} {i : Nat} (hwf : WF f i) (hni : i ∉ l) (hkids : ∀ k : Nat, Kid f i k → k ∈ l) (hlw : ∀ k ∈ l, WF f k) (M : List Ob) :
    ACalls Try.prog 53 [.ref b 0, .int .i64 i] (fkM f ks b bs (cellsT (ftr fb f) f.nodes.length l) M) (fun x M' => x = .tup [] ∧ ∃ ob cap, ((ftr fb f i).length = 0 ∧ ob = none ∧ cap = 0 ∨ ∃ c, ob = some c) ∧ M' = fkM f ks b bs ((cellsT (ftr fb f) f.nodes.length l).set i (.own ob (ftr fb f i).length cap)) (⟨ob, cap * 1, ints (ftr fb f i)⟩ :: M)) := by
  obtain ⟨hf1, hf2⟩ := id hf
  have hi := hwf.lt
  obtain ⟨nd, hnd, hndm, hal⟩ := nodes_at hi
  obtain ⟨hal1, hal2⟩ := hf2 nd hndm
  have hT := ftr_eq (fb := fb) hwf
  have hTl := ftr_len (fb := fb) hwf
  have hTi := ftr_is (fb := fb) hwf
  unfold nodeG at hT
  rw [hal] at hT hTl
  have hcl := cellsT_len (ftr fb f) f.nodes.length l
  have hin : ∀ k : Nat, k ∈ l → (cellsT (ftr fb f) f.nodes.length l)[k]? = some (.psl (ftr fb f k).length (ints (ftr fb f k))) := fun k hk => cellsT_in (hlw k hk).lt hk
  have hout := cellsT_out (g := ftr fb f) hi hni
  generalize cellsT (ftr fb f) f.nodes.length l = cells at *
  generalize hti : ftr fb f i = ti at *
  refine acalls_of_code 59 Try.func53 rfl rfl rfl ?_
  repeat (first | refine aops_p tok rfl rfl rfl rfl ?_ | refine aops_ld tok 1 rfl rfl rfl rfl rfl rfl rfl rfl ?_ | refine acode_seq ?_ | refine acode_region ?_)
  refine aops_ix tok (ndC nd) rfl rfl rfl rfl (by omega) (by omega) (by simp [ndC]) (nd_at hnd) rfl rfl rfl ?_
  repeat (first | refine aops_end ?_ | refine aops_p tok rfl rfl rfl rfl ?_ | refine acode_block ?_)
  refine acode_adoptF i hout (normL_eq _) ?_
  refine acode_swap1 ?_
  refine acode_loopS (ι := Nat × Option Nat × Nat) (fun q => [(0, .ref b 0), (1, .int .i64 i), (17, .psl nd.alts.length (encs alC nd.alts)), (18, .int .i64 nd.alts.length), (19, .int .i64 q.1)])
    (fun q => fkM f ks b bs (cells.set i (.own q.2.1 q.1 q.2.2)) (⟨q.2.1, q.2.2 * 1, ints (ti.take q.1)⟩ :: M)) (fun q => nd.alts.length - q.1) (fun q => q.1 ≤ nd.alts.length ∧ (q.1 = 0 ∧ q.2.1 = none ∧ q.2.2 = 0 ∨ ∃ c, q.2.1 = some c)) (0, none, 0) ⟨Nat.zero_le _, .inl ⟨rfl, rfl, rfl⟩⟩ ⟨rfl, rfl, rfl, rfl, rfl, trivial⟩ rfl ?_
  rintro ⟨q, ob, cap⟩ ⟨hq, hob⟩
  simp only at hq hob ⊢
  repeat (first | refine aops_end ?_ | refine aops_p tok rfl rfl rfl rfl ?_ | refine acode_seq ?_ | refine acode_region ?_)
  refine acode_id rfl (fun e => ?_) (fun e => ?_)
  · have hql : q < nd.alts.length := by omega
    obtain ⟨a, ha⟩ : ∃ a, nd.alts[q]? = some a := ⟨nd.alts[q], List.getElem?_eq_getElem hql⟩
    have ham := List.mem_of_getElem? ha
    have hkl := hal2 a ham
    have hkid : ∀ k : Nat, (k : Int) ∈ a.kids → k ∈ l := fun k hk => hkids k ⟨a, by rw [hal]; exact ham, hk⟩
    have htq : ti[q]? = some (altGo fb f (ftr fb f) a.rule 0 a.kids 1) := by rw [hT, List.getElem?_map, ha]; rfl
    repeat (first | refine acode_seq ?_ | refine acode_region ?_ | refine acode_block ?_ | refine acode_skip ?_ | refine then_n ?_)
    refine aops_ix tok (alC a) rfl rfl rfl rfl (by omega) (by omega) (by simp [alC]) (al_at ha) rfl rfl rfl ?_
    repeat (refine aops_p tok rfl rfl rfl rfl ?_)
    refine aops_alloc tok rfl rfl rfl rfl rfl rfl fun ba => ?_
    repeat (refine aops_stn tok rfl rfl rfl rfl rfl rfl rfl rfl rfl ?_)
    refine aops_pubref0 5 rfl ?_
    repeat (first | refine aops_end ?_ | refine aops_p tok rfl rfl rfl rfl ?_ | refine acode_seq ?_ | refine acode_region ?_ | refine acode_block ?_)
    refine acode_loopS (ι := Nat × Int) (fun p => [(0, .ref b 0), (1, .int .i64 i), (17, .psl nd.alts.length (encs alC nd.alts)), (18, .int .i64 nd.alts.length), (19, .int .i64 q), (5, .pp (alC a)), (24, .psl a.kids.length (ints a.kids)), (25, .int .i64 a.kids.length), (26, .int .i64 p.1), (6, .int .i64 p.2)])
      (fun _ => fkM f ks b bs (cells.set i (.own ob q cap)) (⟨ob, cap * 1, ints (ti.take q)⟩ :: M)) (fun p => a.kids.length - p.1) (fun p => p.1 ≤ a.kids.length ∧ isN p.2 ∧ altGo fb f (ftr fb f) a.rule p.1 (a.kids.drop p.1) p.2 = altGo fb f (ftr fb f) a.rule 0 a.kids 1) (0, 1) ⟨Nat.zero_le _, ⟨by decide, by decide⟩, rfl⟩ ⟨rfl, rfl, rfl, rfl, rfl, rfl, rfl, rfl, rfl, rfl, trivial⟩ rfl ?_
    rintro ⟨j, n⟩ ⟨hj, hn, hgo⟩
    simp only at hj hn hgo ⊢
    repeat (first | refine aops_end ?_ | refine aops_p tok rfl rfl rfl rfl ?_ | refine acode_seq ?_ | refine acode_region ?_)
    refine acode_id rfl (fun e2 => ?_) (fun e2 => ?_)
    · have hjl : j < a.kids.length := by omega
      obtain ⟨k, hk⟩ : ∃ k, a.kids[j]? = some k := ⟨a.kids[j], List.getElem?_eq_getElem hjl⟩
      have hkm := List.mem_of_getElem? hk
      rw [altGo_step hk] at hgo
      repeat (first | refine aops_p tok rfl rfl rfl rfl ?_ | refine acode_seq ?_ | refine acode_region ?_ | refine acode_block ?_ | refine acode_skip ?_ | refine then_n ?_)
      refine aops_ix tok [A.int .i64 k] rfl rfl rfl rfl (by omega) (by omega) (by simp) (ints_at (j := j) (by simpa using hk)) rfl rfl rfl ?_
      repeat' (first | refine aops_end ?_ | refine aops_a tok rfl (by omega) (by omega) rfl rfl rfl ?_ | (refine aops_pd tok rfl rfl rfl rfl ?_ ?_ <;> intro e_) | refine aops_p tok rfl rfl rfl rfl ?_ | refine acode_it rfl ?_ | refine acode_if rfl ?_ | refine acode_seq ?_ | refine acode_region ?_ | refine acode_skip ?_ | refine then_n ?_ | refine block_n ?_)
      · obtain ⟨k', rfl⟩ : ∃ k' : Nat, k = k' := ⟨k.toNat, by omega⟩
        have hkl' := hkid k' hkm
        have hkw := hlw k' hkl'
        have hne : i ≠ k' := fun h => hni (h ▸ hkl')
        rw [if_pos (by omega), Int.toNat_natCast] at hgo
        have hki := kidGo_is (fb := fb) (r := a.rule) (p := j) (altsOf f k') (ftr fb f k') 0 ⟨by decide, by decide⟩ (ftr_is hkw)
        refine aops_callx Try.func73 rfl rfl rfl rfl (fkid_calls hs hf hkw.lt (fset_at (hin k' hkl') hne) (ftr_len hkw) (ftr_is hkw) _) rfl rfl rfl ?_
        skip
        refine aops_callx Try.func72 rfl rfl rfl rfl (times_calls hn hki _) rfl rfl rfl ?_
        repeat (first | refine aops_end ?_ | refine aops_endb ?_ | refine aops_a tok rfl (by omega) (by omega) rfl rfl rfl ?_ | refine aops_p tok rfl rfl rfl rfl ?_ | refine acode_region ?_ | refine then_n ?_)
        exact ⟨(j + 1, _), ⟨by simp; omega, mulN_is hn hki, hgo⟩, by simp; omega, ⟨rfl, rfl, rfl, rfl, rfl, rfl, rfl, rfl, rfl, rfl, trivial⟩, rfl⟩
      · rw [if_neg (by omega)] at hgo
        exact ⟨(j + 1, n), ⟨by simp; omega, hn, hgo⟩, by simp; omega, ⟨rfl, rfl, rfl, rfl, rfl, rfl, rfl, rfl, rfl, rfl, trivial⟩, rfl⟩
    · have hge : j = a.kids.length := by omega
      subst hge
      rw [List.drop_length] at hgo
      have hgo : n = altGo fb f (ftr fb f) a.rule 0 a.kids 1 := hgo
      rw [← hgo] at htq
      have hset : ∀ x, (cells.set i (.own ob q cap)).take (i * 1) ++ ([x] ++ (cells.set i (.own ob q cap)).drop (i * 1 + 1)) = cells.set i x := fun x => by
        rw [Nat.mul_one]
        have := List.set_eq_take_append_cons_drop (l := cells.set i (.own ob q cap)) (i := i) (a := x)
        rw [List.set_set, List.length_set, if_pos (by rw [hcl]; exact hi)] at this
        rw [this]; rfl
      have hcur := set_same (x := A.own ob q cap) (show i < cells.length by rw [hcl]; exact hi)
      have hcl2 : (cells.set i (.own ob q cap)).length = f.nodes.length := by rw [List.length_set, hcl]
      have htl : (ti.take q).length = q := by rw [List.length_take]; omega
      refine acode_exit ?_
      repeat (first | refine exit_then ?_ | refine exit_here ?_ | refine then_n ?_)
      refine acode_drawP [⟨some bs, f.nodes.length * 1, cells.set i (.own ob q cap)⟩, ⟨some b, 4, [.psl f.nodes.length (encs ndC f.nodes), .int .i64 f.root, .mp ks, .own (some bs) f.nodes.length f.nodes.length]⟩] 16 [0, 1, 2, 3, 4, 5, 6, 7, 8, 9, 10, 11, 12, 13, 14, 15] [14] mixed (by kernel_rfl) (by kernel_rfl) rfl ?_
      repeat (first | refine seqO_p tok rfl rfl rfl rfl rfl ?_ | refine seqO_ld tok 1 rfl rfl rfl rfl rfl (by simp) rfl rfl rfl rfl ?_)
      refine seqO_ixo tok rfl rfl rfl rfl rfl (by omega) (by omega) rfl rfl rfl ?_
      refine seqO_ld tok 0 (y := .own ob q cap) rfl rfl rfl rfl rfl (by simp) (by rw [headed_eq]; show (cells.set i _)[i * 1]? = _; rw [Nat.mul_one]; exact hcur) rfl rfl rfl ?_
      repeat (refine seqO_p tok rfl rfl rfl rfl rfl ?_)
      refine seqO_lit tok rfl rfl rfl rfl rfl rfl rfl rfl rfl ?_
      refine seqO_app tok 2 (m := 1) rfl rfl rfl rfl (.inl rfl) rfl rfl (by rw [ints_len, htl]; exact (Nat.mul_one _).symm) rfl rfl rfl (by show _ * 8 ≤ _; omega) (by omega) (by intro y o ho; simp at ho ⊢; rcases ho with rfl | rfl <;> simp) rfl rfl rfl fun ob' cap' => ?_
      refine seqO_T rfl ?_
      refine seqT_ixo tok rfl rfl rfl rfl (by omega) (by omega) rfl rfl rfl ?_
      refine SeqT.done ?_
      refine aops_somed 56 rfl (by omega) fun c hc => ?_
      subst hc
      refine aops_stk tok 0 (cells.set i (.own (some c) (q + 1) cap')) _ rfl rfl rfl rfl rfl rfl (by rw [hcl2]; show i * 1 + 1 ≤ _; omega) (hset _) rfl rfl rfl ?_
      repeat (first | refine aops_end ?_ | refine aops_endb ?_ | refine aops_a tok rfl (by omega) (by omega) rfl rfl rfl ?_ | refine aops_p tok rfl rfl rfl rfl ?_ | refine acode_region ?_ | refine then_n ?_)
      refine ⟨(q + 1, some c, cap'), ⟨by simp; omega, .inr ⟨c, rfl⟩⟩, by simp; omega, ⟨rfl, rfl, rfl, rfl, rfl, trivial⟩, ?_⟩
      simp only [fkM, take_snoc htq, ints_app]
      rfl
  · have hge : q = nd.alts.length := by omega
    subst hge
    refine acode_exit ?_
    repeat (first | refine exit_then ?_ | refine exit_here ?_)
    have e1 : ti.take nd.alts.length = ti := List.take_of_length_le (by omega)
    rw [e1, ← hTl]
    exact ⟨.tup [], ⟨rfl, ob, cap, by rw [hTl]; exact hob, rfl⟩, rfl⟩
end Go.Proofs.Ytnlmfhnjjblhoaa.Ab
/- Chapter 23: Count and Left: the walk. No condition. -/
set_option linter.unusedVariables false
set_option linter.unusedSimpArgs false
namespace Go.Proofs.Ytnlmfhnjjblhoaa.Ab
attribute [local irreducible] thenA inBlockA ACode AOps put IntKind.wrap

theorem cellsT_nil (g : Nat → List Int) (n : Nat) : cellsT g n [] = List.replicate n .nils := by
  refine List.ext_getElem (by simp [cellsT]) fun i h1 h2 => by simp [cellsT]
theorem sumN_step {l : List Int} {i : Nat} {x n : Int} (h : l[i]? = some x) : (l.drop i).foldl addN n = (l.drop (i + 1)).foldl addN (addN n x) := by
  have e1 : l.drop i = x :: l.drop (i + 1) := by
    obtain ⟨h2, rfl⟩ := List.getElem?_eq_some_iff.1 h
    exact List.drop_eq_getElem_cons h2
  rw [e1]; rfl
theorem topo_next {f : Fo} {l : List Nat} (ht : Topo f l) {p i : Nat} (h : l[p]? = some i) : i ∉ l.take p ∧ ∀ k : Nat, Kid f i k → k ∈ l.take p := by
  obtain ⟨hpl, rfl⟩ := List.getElem?_eq_some_iff.1 h
  exact (ht.pre (a := l.take p) (b := l.drop (p + 1)) (i := l[p]) (by rw [List.getElem_cons_drop, List.take_append_drop])).2
theorem take_snocN {l : List Nat} {i : Nat} {x : Nat} (h : l[i]? = some x) : l.take (i + 1) = l.take i ++ [x] := by
  rw [List.take_add_one, h]; rfl
noncomputable def fcnt (g : Gr) (f : Fo) : Int := sumN (ftr g.forbid f f.root.toNat)
theorem fcnt_is {g : Gr} {f : Fo} (h : FForm f) : isN (fcnt g f) := sumN_is (ftr_is (h.2 _ (by have := h.1; omega)))

set_option maxHeartbeats 4000000 in
theorem fcount_calls {g : Gr} {f : Fo} (hg : g.forbid.length ≤ 9223372036854775807) (hf : FoOk f) (M : List Ob) : ACalls Try.prog 22 [grA g, foA f] M (fun r M' => (FForm f ∧ r = .tup [.int .i64 (fcnt g f), .bool (decide (fcnt g f < great))] ∨ ¬ FForm f ∧ r = .tup [.int .i64 0, .bool false]) ∧ M' = M) := by
  obtain ⟨hf1, hf2⟩ := id hf
  refine acalls_of_code 61 Try.func22 rfl rfl rfl ?_
  repeat (first | refine acode_seq ?_ | refine acode_region ?_)
  refine aops_boxf rfl rfl rfl rfl rfl rfl rfl ?_
  refine aops_boxf rfl rfl rfl rfl rfl rfl rfl ?_
  repeat (first | refine aops_end ?_ | refine aops_p tok rfl rfl rfl rfl ?_ | refine acode_seq ?_ | refine acode_region ?_)
  refine aops_call Try.func37 rfl rfl rfl rfl (order_calls hf M) rfl rfl ?_
  rintro x M' ⟨hM, hx⟩
  obtain rfl : M = M' := hM.symm
  rcases hx with ⟨h, l, rfl, ht, hall⟩ | ⟨h, rfl⟩
  · obtain ⟨⟨h0, h1⟩, hw⟩ := id h
    have hs := setF_of g.forbid
    repeat' (first | refine aops_put rfl ?_ | refine aops_end ?_ | refine aops_p tok rfl rfl rfl rfl ?_ | refine acode_if rfl ?_ | refine acode_seq ?_ | refine acode_region ?_ | refine acode_skip ?_ | refine then_n ?_)
    refine acode_drawP [] 9 [0, 1, 2, 3, 4, 5, 6, 7, 8] [6, 8] mixed (by kernel_rfl) (by kernel_rfl) rfl ?_
    repeat (refine seqO_p tok rfl rfl rfl rfl rfl ?_)
    refine seqO_call _ rfl Try.func52 rfl rfl rfl rfl (fun M' => fset_calls hg M') rfl rfl rfl ?_
    repeat (refine seqO_p tok rfl rfl rfl rfl rfl ?_)
    refine seqO_mk tok f.nodes.length rfl rfl rfl rfl rfl rfl rfl (by show _ * 24 ≤ _; omega) (by omega) (by simp) rfl rfl rfl fun bs => ?_
    repeat (refine seqO_p tok rfl rfl rfl rfl rfl ?_)
    refine seqO_boxo rfl rfl rfl rfl (by simp) rfl rfl rfl rfl fun b => ?_
    refine SeqO.done ?_
    repeat (refine aops_p tok rfl rfl rfl rfl ?_)
    refine aops_end ?_
    refine acode_perm (fkM f (setF g.forbid) b bs (cellsT (ftr g.forbid f) f.nodes.length []) M) (by rw [cellsT_nil, ← zerosA_one]; exact List.Perm.swap _ _ _) ?_
    repeat (first | refine aops_end ?_ | refine aops_p tok rfl rfl rfl rfl ?_ | refine acode_seq ?_ | refine acode_region ?_ | refine acode_block ?_)
    refine acode_loopS (ι := Nat) (fun p => [(3, .pp (foC f)), (8, .ref b 0), (30, .psl l.length (ints (nums l))), (31, .int .i64 l.length), (32, .int .i64 p)]) (fun p => fkM f (setF g.forbid) b bs (cellsT (ftr g.forbid f) f.nodes.length (l.take p)) M) (fun p => l.length - p) (fun p => p ≤ l.length) 0 (Nat.zero_le _) ⟨rfl, rfl, rfl, rfl, rfl, trivial⟩ rfl ?_
    intro p hp
    have htl := ht.len
    repeat (first | refine aops_end ?_ | refine aops_p tok rfl rfl rfl rfl ?_ | refine acode_seq ?_ | refine acode_region ?_)
    refine acode_id rfl (fun e => ?_) (fun e => ?_)
    · have hpl : p < l.length := by omega
      obtain ⟨i, hpi⟩ : ∃ i, l[p]? = some i := ⟨l[p], List.getElem?_eq_getElem hpl⟩
      have hwf := ht.wf i (List.mem_of_getElem? hpi)
      obtain ⟨hni, hkids⟩ := topo_next ht hpi
      repeat (first | refine acode_seq ?_ | refine acode_region ?_ | refine acode_block ?_ | refine acode_skip ?_ | refine then_n ?_)
      refine aops_ix tok [A.int .i64 i] rfl rfl rfl rfl (by omega) (by omega) (by simp) (ints_at (j := p) (by simpa using nums_at hpi)) rfl rfl rfl ?_
      repeat (first | refine aops_end ?_ | refine aops_p tok rfl rfl rfl rfl ?_ | refine acode_region ?_)
      refine aops_call Try.func53 rfl rfl rfl rfl (fnode_calls hs hf hwf hni hkids (fun k hk => ht.wf k (List.mem_of_mem_take hk)) M) rfl rfl ?_
      rintro x M' ⟨rfl, ob, cap, hob, rfl⟩
      refine aops_put rfl ?_
      have hcl : i < (cellsT (ftr g.forbid f) f.nodes.length (l.take p)).length := by rw [cellsT_len]; exact hwf.lt
      refine aops_perm ([⟨ob, cap * 1, ints (ftr g.forbid f i)⟩] ++ (fkM f (setF g.forbid) b bs ((cellsT (ftr g.forbid f) f.nodes.length (l.take p)).set i (.own ob (ftr g.forbid f i).length cap)) M)) perm3 ?_
      refine aops_freezeVM [⟨ob, cap * 1, ints (ftr g.forbid f i)⟩] (fkM f (setF g.forbid) b bs (cellsT (ftr g.forbid f) f.nodes.length (l.take (p + 1))) M) [(3, .pp (foC f)), (8, .ref b 0), (30, .psl l.length (ints (nums l))), (31, .int .i64 l.length), (32, .int .i64 p)] ⟨.refl _, .refl _, .refl _, .refl _, .refl _, trivial⟩ ?_ ?_
      · refine .cons ?_ (fun h => by cases h) (.same (VwM.rfl' M))
        have hv : Vw [⟨ob, cap * 1, ints (ftr g.forbid f i)⟩] (.own ob (ftr g.forbid f i).length cap) (.psl (ftr g.forbid f i).length (ints (ftr g.forbid f i))) := by
          rcases hob with ⟨e1, rfl, rfl⟩ | ⟨c, rfl⟩
          · rw [e1]
            have : ftr g.forbid f i = [] := List.eq_nil_of_length_eq_zero e1
            rw [this]; exact .none
          · exact .own (.head _) rfl (by rw [ints_len, Nat.mul_one]) (by decide) (VwL.rfl' _)
        have := VwL.set (V := [⟨ob, cap * 1, ints (ftr g.forbid f i)⟩]) i (set_same (x := A.own ob (ftr g.forbid f i).length cap) hcl) hv
        rw [List.set_set, cellsT_add] at this
        rw [take_snocN hpi]
        exact this
      · repeat (first | refine aops_end ?_ | refine aops_endb ?_ | refine aops_a tok rfl (by omega) (by omega) rfl rfl rfl ?_ | refine aops_p tok rfl rfl rfl rfl ?_ | refine acode_region ?_ | refine then_n ?_)
        exact ⟨p + 1, by omega, by omega, ⟨rfl, rfl, rfl, rfl, rfl, trivial⟩, rfl⟩
    · have hge : p = l.length := by omega
      subst hge
      rw [List.take_length]
      have hrl : f.root.toNat < f.nodes.length := by omega
      have hrw := hw _ hrl
      have hcr := cellsT_in (g := ftr g.forbid f) hrl (hall _ hrl)
      have hris := ftr_is (fb := g.forbid) hrw
      have hmax : (ftr g.forbid f f.root.toNat).length ≤ 4398046510976 := by
        obtain ⟨nd, hnd, hndm, hal⟩ := nodes_at hrl
        rw [ftr_len hrw, hal]; exact (hf2 nd hndm).1
      unfold fcnt
      have hdef : sumN (ftr g.forbid f f.root.toNat) = (ftr g.forbid f f.root.toNat).foldl addN 0 := rfl
      generalize ftr g.forbid f f.root.toNat = ts at *
      refine acode_exit ?_
      repeat (first | refine exit_then ?_ | refine exit_here ?_ | refine then_n ?_)
      repeat (first | refine aops_end ?_ | refine aops_p tok rfl rfl rfl rfl ?_ | refine acode_seq ?_ | refine acode_region ?_)
      refine acode_drawT 10 mixed (by kernel_rfl) (by kernel_rfl) ?_
      repeat (first | refine seqT_p tok rfl rfl rfl rfl ?_ | refine seqT_ld tok 1 rfl rfl rfl rfl rfl rfl rfl rfl ?_)
      refine seqT_ixo tok rfl rfl rfl rfl h0 h1 rfl rfl rfl ?_
      refine seqT_ld tok 0 (y := .psl ts.length (ints ts)) rfl rfl rfl rfl (by rw [headed_eq]; show (cellsT _ _ _)[f.root.toNat * 1]? = _; rw [Nat.mul_one]; exact hcr) rfl rfl rfl ?_
      repeat (refine seqT_p tok rfl rfl rfl rfl ?_)
      refine SeqT.done ?_
      repeat (first | refine aops_end ?_ | refine acode_block ?_)
      refine acode_drop0 (acode_drop0 ?_)
      refine acode_loopS (ι := Nat × Int) (fun q => [(47, .psl ts.length (ints ts)), (48, .int .i64 ts.length), (49, .int .i64 q.1), (11, .int .i64 q.2)]) (fun _ => M) (fun q => ts.length - q.1) (fun q => q.1 ≤ ts.length ∧ isN q.2 ∧ (ts.drop q.1).foldl addN q.2 = sumN ts) (0, 0) ⟨Nat.zero_le _, ⟨by decide, by decide⟩, rfl⟩ ⟨rfl, rfl, rfl, rfl, trivial⟩ rfl ?_
      rintro ⟨q, n⟩ ⟨hq, hn, hgo⟩
      simp only at hq hn hgo ⊢
      repeat (first | refine aops_end ?_ | refine aops_p tok rfl rfl rfl rfl ?_ | refine acode_seq ?_ | refine acode_region ?_)
      refine acode_id rfl (fun e => ?_) (fun e => ?_)
      · have hql : q < ts.length := by omega
        obtain ⟨x, hx⟩ : ∃ x, ts[q]? = some x := ⟨ts[q], List.getElem?_eq_getElem hql⟩
        have hxn := hris x (List.mem_of_getElem? hx)
        rw [sumN_step hx] at hgo
        repeat (first | refine acode_seq ?_ | refine acode_region ?_ | refine acode_block ?_ | refine acode_skip ?_ | refine then_n ?_)
        refine aops_ix tok [A.int .i64 x] rfl rfl rfl rfl (by omega) (by omega) (by simp) (ints_at (j := q) (by simpa using hx)) rfl rfl rfl ?_
        repeat (first | refine aops_end ?_ | refine aops_p tok rfl rfl rfl rfl ?_ | refine acode_region ?_)
        refine aops_callx Try.func54 rfl rfl rfl rfl (add_calls hn hxn _) rfl rfl rfl ?_
        repeat (first | refine aops_end ?_ | refine aops_endb ?_ | refine aops_a tok rfl (by omega) (by omega) rfl rfl rfl ?_ | refine aops_p tok rfl rfl rfl rfl ?_ | refine acode_region ?_ | refine then_n ?_)
        exact ⟨(q + 1, addN n x), ⟨by simp; omega, addN_is hn hxn, hgo⟩, by simp; omega, ⟨rfl, rfl, rfl, rfl, trivial⟩, rfl⟩
      · have hge : q = ts.length := by omega
        subst hge
        rw [List.drop_length] at hgo
        have hgo : n = sumN ts := hgo
        subst hgo
        refine acode_exit ?_
        repeat (first | refine exit_then ?_ | refine exit_here ?_ | refine then_n ?_)
        repeat (first | refine aops_p tok rfl rfl rfl rfl ?_ | refine acode_seq ?_ | refine acode_region ?_)
        refine aops_callx Try.func38 rfl rfl rfl rfl (told_calls M) rfl rfl rfl ?_
        repeat (first | refine aops_end ?_ | refine aops_p tok rfl rfl rfl rfl ?_)
        refine acode_ret ?_
        skip
        exact ⟨_, ⟨.inl ⟨h, rfl⟩, rfl⟩, _, _, rfl, resOf_tmp rfl, resOf_tmp rfl⟩
  · repeat' (first | refine aops_put rfl ?_ | refine aops_end ?_ | refine aops_p tok rfl rfl rfl rfl ?_ | refine acode_it rfl ?_ | refine acode_seq ?_ | refine acode_region ?_)
    refine acode_ret ?_
    repeat (refine ret_then ?_)
    exact ⟨_, ⟨.inr ⟨h, rfl⟩, rfl⟩, _, _, rfl, resOf_tmp rfl, resOf_tmp rfl⟩
end Go.Proofs.Ytnlmfhnjjblhoaa.Ab
/- Chapter 23: May, Left, and the law without anything forbidden: the walk. No condition. -/
set_option linter.unusedVariables false
set_option linter.unusedSimpArgs false
namespace Go.Proofs.Ytnlmfhnjjblhoaa.Ab
attribute [local irreducible] thenA inBlockA ACode AOps put IntKind.wrap

set_option maxHeartbeats 2000000 in
theorem fmay0_calls {fb : List F3} {ks : List (List Int)} (hs : SetOf fb ks) : ∀ (t : Tr), trSize t ≤ 9223372036854775807 → ∀ (M : List Ob), ACalls Try.prog 61 [.mp ks, .agg (trC t)] M (fun r M' => r = .bool (mayB fb t) ∧ M' = M) := by
  refine Tr.ind fun t ih hsz M => ?_
  rw [trSize_eq] at hsz
  have hkl := trsSize_len t.kids
  rw [mayB_eq, trC_eq]
  refine acalls_of_code 38 Try.func61 rfl rfl rfl ?_
  repeat (first | refine acode_seq ?_ | refine acode_region ?_)
  refine aops_boxf rfl rfl rfl rfl rfl rfl rfl ?_
  repeat' (first | refine aops_end ?_ | (refine aops_pd tok rfl rfl rfl rfl ?_ ?_ <;> intro e_) | refine aops_p tok rfl rfl rfl rfl ?_ | refine acode_it rfl ?_ | refine acode_if rfl ?_ | refine acode_seq ?_ | refine acode_region ?_ | refine acode_block ?_ | refine acode_skip ?_ | refine then_n ?_)
  · refine acode_ret ?_
    repeat (refine ret_then ?_)
    exact ⟨.bool true, ⟨by simp [e_], rfl⟩, resOf_tmp rfl⟩
  · rw [decide_eq_false e_, Bool.false_or]
    refine acode_loopS (ι := Nat) (fun i => [(0, .mp ks), (3, .pp [.int .i64 t.rule, .int .i64 t.tok, .psl t.kids.length (encs trC t.kids)]), (11, .psl t.kids.length (encs trC t.kids)), (12, .int .i64 t.kids.length), (13, .int .i64 i)]) (fun _ => M) (fun i => t.kids.length - i) (fun i => i ≤ t.kids.length ∧ maysB fb t.rule i (t.kids.drop i) = maysB fb t.rule 0 t.kids) 0 ⟨Nat.zero_le _, rfl⟩ ⟨rfl, rfl, rfl, rfl, rfl, trivial⟩ rfl ?_
    rintro i ⟨hi, hgo⟩
    repeat (first | refine aops_end ?_ | refine aops_p tok rfl rfl rfl rfl ?_ | refine acode_seq ?_ | refine acode_region ?_)
    refine acode_id rfl (fun e => ?_) (fun e => ?_)
    · have hil : i < t.kids.length := by omega
      obtain ⟨k, hk⟩ : ∃ k, t.kids[i]? = some k := ⟨t.kids[i], List.getElem?_eq_getElem hil⟩
      have hkm := List.mem_of_getElem? hk
      have hks := trsSize_mem hkm
      rw [maysB_step hk] at hgo
      have hcall := ih k hkm (by omega)
      rw [trC_eq] at hcall
      repeat (first | refine aops_p tok rfl rfl rfl rfl ?_ | refine acode_seq ?_ | refine acode_region ?_ | refine acode_block ?_ | refine acode_skip ?_ | refine then_n ?_)
      refine aops_ix tok [.int .i64 k.rule, .int .i64 k.tok, .psl k.kids.length (encs trC k.kids)] rfl rfl rfl rfl (by omega) (by omega) (by simp) (by rw [← trC_eq]; exact tr_at hk) rfl rfl rfl ?_
      repeat (refine aops_p tok rfl rfl rfl rfl ?_)
      refine aops_alloc tok rfl rfl rfl rfl rfl rfl fun ba => ?_
      repeat (first | refine aops_p tok rfl rfl rfl rfl ?_ | refine aops_stn tok rfl rfl rfl rfl rfl rfl rfl rfl rfl ?_)
      refine aops_pubref0 6 rfl ?_
      repeat' (first | refine aops_end ?_ | refine aops_o rfl rfl rfl ?_ | (refine aops_pn tok rfl rfl rfl rfl ?_ ?_ <;> intro e_) | refine aops_p tok rfl rfl rfl rfl ?_ | refine acode_seq ?_ | refine acode_region ?_)
      · refine aops_look tok (k := l3 (t.rule, (i : Int), k.rule)) rfl rfl rfl rfl hs.1 rfl rfl rfl rfl ?_
        by_cases hm : (t.rule, (i : Int), k.rule) ∈ fb
        · rw [decide_eq_true ((hs.2 _).2 hm)]
          rw [decide_eq_true (⟨e_, hm⟩ : k.rule ≠ -1 ∧ (t.rule, (i : Int), k.rule) ∈ fb)] at hgo
          repeat' (first | refine aops_end ?_ | refine aops_o rfl rfl rfl ?_ | refine aops_p tok rfl rfl rfl rfl ?_ | refine acode_it rfl ?_ | refine acode_seq ?_ | refine acode_region ?_)
          refine acode_ret ?_
          repeat (first | refine ret_then ?_ | refine ret_block ?_)
          exact ⟨.bool false, ⟨by rw [← hgo]; rfl, rfl⟩, resOf_tmp rfl⟩
        · rw [decide_eq_false (fun h => hm ((hs.2 _).1 h))]
          rw [decide_eq_false (fun h => hm h.2 : ¬ (k.rule ≠ -1 ∧ (t.rule, (i : Int), k.rule) ∈ fb))] at hgo
          repeat (refine aops_p tok rfl rfl rfl rfl ?_)
          refine aops_callx Try.func61 rfl rfl rfl rfl (hcall _) rfl rfl rfl ?_
          cases hmb : mayB fb k with
          | false =>
            rw [hmb] at hgo
            repeat' (first | refine aops_end ?_ | refine aops_p tok rfl rfl rfl rfl ?_ | refine acode_it rfl ?_ | refine acode_seq ?_ | refine acode_region ?_)
            refine acode_ret ?_
            repeat (first | refine ret_then ?_ | refine ret_block ?_)
            exact ⟨.bool false, ⟨by rw [← hgo]; rfl, rfl⟩, resOf_tmp rfl⟩
          | true =>
            rw [hmb] at hgo
            repeat' (first | refine aops_end ?_ | refine aops_a tok rfl (by omega) (by omega) rfl rfl rfl ?_ | refine aops_p tok rfl rfl rfl rfl ?_ | refine acode_if rfl ?_ | refine acode_region ?_ | refine acode_skip ?_ | refine then_n ?_ | refine block_n ?_)
            exact ⟨i + 1, ⟨by omega, by rw [← hgo]; rfl⟩, by omega, ⟨rfl, rfl, rfl, rfl, rfl, trivial⟩, rfl⟩
      · rw [decide_eq_false (fun h => h.1 e_ : ¬ (k.rule ≠ -1 ∧ (t.rule, (i : Int), k.rule) ∈ fb))] at hgo
        refine aops_callx Try.func61 rfl rfl rfl rfl (hcall _) rfl rfl rfl ?_
        cases hmb : mayB fb k with
        | false =>
          rw [hmb] at hgo
          repeat' (first | refine aops_end ?_ | refine aops_p tok rfl rfl rfl rfl ?_ | refine acode_it rfl ?_ | refine acode_seq ?_ | refine acode_region ?_)
          refine acode_ret ?_
          repeat (first | refine ret_then ?_ | refine ret_block ?_)
          exact ⟨.bool false, ⟨by rw [← hgo]; rfl, rfl⟩, resOf_tmp rfl⟩
        | true =>
          rw [hmb] at hgo
          repeat' (first | refine aops_end ?_ | refine aops_a tok rfl (by omega) (by omega) rfl rfl rfl ?_ | refine aops_p tok rfl rfl rfl rfl ?_ | refine acode_if rfl ?_ | refine acode_region ?_ | refine acode_skip ?_ | refine then_n ?_ | refine block_n ?_)
          exact ⟨i + 1, ⟨by omega, by rw [← hgo]; rfl⟩, by omega, ⟨rfl, rfl, rfl, rfl, rfl, trivial⟩, rfl⟩
    · have hge : i = t.kids.length := by omega
      subst hge
      rw [List.drop_length] at hgo
      refine acode_exit ?_
      repeat (first | refine exit_then ?_ | refine exit_here ?_ | refine then_n ?_)
      repeat (first | refine aops_end ?_ | refine aops_p tok rfl rfl rfl rfl ?_ | refine acode_seq ?_ | refine acode_region ?_)
      refine acode_ret ?_
      skip
      exact ⟨.bool true, ⟨by rw [← hgo]; rfl, rfl⟩, resOf_tmp rfl⟩
theorem fmay_calls {g : Gr} (hg : g.forbid.length ≤ 9223372036854775807) {t : Tr} (hsz : trSize t ≤ 9223372036854775807) (M : List Ob) : ACalls Try.prog 27 [grA g, .agg (trC t)] M (fun r M' => r = .bool (mayB g.forbid t) ∧ M' = M) := by
  have hcall := fmay0_calls (setF_of g.forbid) t hsz M
  rw [trC_eq] at hcall ⊢
  refine acalls_of_code 9 Try.func27 rfl rfl rfl ?_
  repeat (first | refine acode_seq ?_ | refine acode_region ?_)
  refine aops_boxf rfl rfl rfl rfl rfl rfl rfl ?_
  refine aops_boxf rfl rfl rfl rfl rfl rfl rfl ?_
  repeat (first | refine aops_end ?_ | refine aops_p tok rfl rfl rfl rfl ?_ | refine acode_seq ?_)
  refine acode_drawT 4 mixed (by kernel_rfl) (by kernel_rfl) ?_
  repeat (refine seqT_p tok rfl rfl rfl rfl ?_)
  refine seqT_call _ Try.func52 rfl rfl rfl rfl (fset_calls hg M) rfl rfl rfl ?_
  repeat (refine seqT_p tok rfl rfl rfl rfl ?_)
  refine seqT_call _ Try.func61 rfl rfl rfl rfl hcall rfl rfl rfl ?_
  refine SeqT.done ?_
  repeat (first | refine aops_end ?_ | refine aops_p tok rfl rfl rfl rfl ?_)
  refine acode_ret ?_
  skip
  exact ⟨_, ⟨rfl, rfl⟩, resOf_tmp rfl⟩
theorem fleft_calls {g : Gr} {f : Fo} (hg : g.forbid.length ≤ 9223372036854775807) (hf : FoOk f) (M : List Ob) : ACalls Try.prog 28 [grA g, foA f] M (fun r M' => (FForm f ∧ r = .bool (decide (fcnt g f > 0)) ∨ ¬ FForm f ∧ r = .bool false) ∧ M' = M) := by
  refine acalls_of_code 15 Try.func28 rfl rfl rfl ?_
  repeat (first | refine acode_seq ?_ | refine acode_region ?_)
  refine aops_boxf rfl rfl rfl rfl rfl rfl rfl ?_
  refine aops_boxf rfl rfl rfl rfl rfl rfl rfl ?_
  repeat (first | refine aops_end ?_ | refine aops_p tok rfl rfl rfl rfl ?_ | refine acode_seq ?_ | refine acode_region ?_)
  refine aops_call Try.func22 rfl rfl rfl rfl (fcount_calls hg hf M) rfl rfl ?_
  rintro x M' ⟨⟨h, rfl⟩ | ⟨h, rfl⟩, rfl⟩
  · repeat (first | refine aops_put rfl ?_ | refine aops_end ?_ | refine aops_p tok rfl rfl rfl rfl ?_ | refine acode_seq ?_ | refine acode_region ?_)
    refine acode_ret ?_
    skip
    exact ⟨_, ⟨.inl ⟨h, rfl⟩, rfl⟩, resOf_tmp rfl⟩
  · repeat (first | refine aops_put rfl ?_ | refine aops_end ?_ | refine aops_p tok rfl rfl rfl rfl ?_ | refine acode_seq ?_ | refine acode_region ?_)
    refine acode_ret ?_
    skip
    exact ⟨_, ⟨.inr ⟨h, rfl⟩, rfl⟩, resOf_tmp rfl⟩
end Go.Proofs.Ytnlmfhnjjblhoaa.Ab
/- Chapter 23's law without anything forbidden. No condition. -/
set_option linter.unusedVariables false
set_option linter.unusedSimpArgs false
namespace Go.Proofs.Ytnlmfhnjjblhoaa.Ab
attribute [local irreducible] thenA inBlockA ACode AOps put IntKind.wrap

theorem alive23_calls (M : List Ob) : ACalls Try.prog 20 [] M (fun r M' => r = .bool true ∧ M' = M) := by
  have hl : (1 : Nat) ≤ 9223372036854775807 := by decide
  have c1 := fmay_calls (g := ⟨0, 0, 0, [], [(1, 0, 2)], [], []⟩) hl (t := ⟨-1, 0, []⟩) (by decide) []
  have c2 := fmay_calls (g := ⟨0, 0, 0, [], [(1, 0, 2)], [], []⟩) hl (t := ⟨1, 0, [⟨2, 0, []⟩]⟩) (by decide) []
  have c3 := fmay_calls (g := ⟨0, 0, 0, [], [(1, 0, 2)], [], []⟩) hl (t := ⟨1, 0, [⟨3, 0, []⟩]⟩) (by decide) []
  rw [show mayB _ _ = true from by decide] at c1
  rw [show mayB _ _ = false from by decide] at c2
  rw [show mayB _ _ = true from by decide] at c3
  have hv1 : VwL M [.agg [.int .i64 0, .int .i64 0, .int .i64 0, .nils, .psl 1 (f3C (1, 0, 2)), .nils, .nils], .agg [.int .i64 (-1), .int .i64 0, .nils]] [grA ⟨0, 0, 0, [], [(1, 0, 2)], [], []⟩, .agg (trC ⟨-1, 0, []⟩)] :=
    .cons (.agg (.cons (.refl _) (.cons (.refl _) (.cons (.refl _) (.cons .nils (.cons (.refl _) (.cons .nils (.cons .nils .nil)))))))) (.cons (.agg (.cons (.refl _) (.cons (.refl _) (.cons .nils .nil)))) .nil)
  have hv2 : ∀ k : Int, VwL M [.agg [.int .i64 0, .int .i64 0, .int .i64 0, .nils, .psl 1 (f3C (1, 0, 2)), .nils, .nils], .agg [.int .i64 1, .int .i64 0, .psl 1 [.int .i64 k, .int .i64 0, .nils]]] [grA ⟨0, 0, 0, [], [(1, 0, 2)], [], []⟩, .agg (trC ⟨1, 0, [⟨k, 0, []⟩]⟩)] := fun k =>
    .cons (.agg (.cons (.refl _) (.cons (.refl _) (.cons (.refl _) (.cons .nils (.cons (.refl _) (.cons .nils (.cons .nils .nil)))))))) (.cons (.agg (.cons (.refl _) (.cons (.refl _) (.cons (.psl (.cons (.refl _) (.cons (.refl _) (.cons .nils .nil)))) .nil)))) .nil)
  refine acalls_of_code 23 Try.func20 rfl rfl rfl ?_
  repeat (first | refine aops_end ?_ | refine aops_p tok rfl rfl rfl rfl ?_ | refine acode_seq ?_ | refine acode_region ?_)
  refine aops_litn tok rfl rfl rfl rfl rfl rfl rfl ?_
  repeat (refine aops_p tok rfl rfl rfl rfl ?_)
  refine aops_alloc tok rfl rfl rfl rfl rfl rfl fun bg => ?_
  repeat (refine aops_stn tok rfl rfl rfl rfl rfl rfl rfl rfl rfl ?_)
  refine aops_pubref0 1 rfl ?_
  repeat (first | refine aops_end ?_ | refine aops_p tok rfl rfl rfl rfl ?_ | refine acode_seq ?_ | refine acode_region ?_)
  refine aops_callx Try.func27 rfl rfl rfl rfl (acalls_view hv1 c1 rfl) rfl rfl rfl ?_
  repeat (refine aops_p tok rfl rfl rfl rfl ?_)
  refine aops_litn tok rfl rfl rfl rfl rfl rfl rfl ?_
  repeat (refine aops_p tok rfl rfl rfl rfl ?_)
  refine aops_callx Try.func27 rfl rfl rfl rfl (acalls_view (hv2 2) c2 rfl) rfl rfl rfl ?_
  repeat (refine aops_p tok rfl rfl rfl rfl ?_)
  refine aops_litn tok rfl rfl rfl rfl rfl rfl rfl ?_
  repeat (refine aops_p tok rfl rfl rfl rfl ?_)
  refine aops_callx Try.func27 rfl rfl rfl rfl (acalls_view (hv2 3) c3 rfl) rfl rfl rfl ?_
  repeat (first | refine aops_end ?_ | refine aops_p tok rfl rfl rfl rfl ?_)
  refine acode_ret ?_
  skip
  exact ⟨_, ⟨rfl, rfl⟩, resOf_tmp rfl⟩

theorem fcnt_none {g : Gr} {f : Fo} (hg : g.forbid = []) (h : FForm f) : fcnt g f = trees f f.root.toNat := by
  unfold fcnt; rw [hg]; exact ftr_none (h.2 _ (by have := h.1; omega))

set_option maxHeartbeats 4000000 in
theorem filterNone_calls (zs : List A) (h : GoodL T [43, 25] zs) : ACalls Try.prog 8 zs [] (fun r _ => r = .bool true) := by
  obtain ⟨_, _, rfl, ⟨f1, g1⟩, _, _, rfl, ⟨f2, g2⟩, rfl⟩ := h
  obtain ⟨g, rfl, hgo⟩ := good_gr g1
  obtain ⟨f, rfl, hl, hk⟩ := good_fo g2
  obtain ⟨nm, kd, st, rs, fb, rc, kc⟩ := g
  refine acalls_of_code 48 Try.func8 rfl rfl rfl ?_
  repeat (first | refine acode_seq ?_ | refine acode_region ?_)
  refine aops_boxo rfl rfl rfl rfl rfl rfl rfl fun bg => ?_
  refine aops_boxf rfl rfl rfl rfl rfl rfl rfl ?_
  repeat (first | refine aops_end ?_ | refine aops_p tok rfl rfl rfl rfl ?_ | refine acode_seq ?_ | refine acode_region ?_)
  refine aops_callx Try.func20 rfl rfl rfl rfl (alive23_calls _) rfl rfl rfl ?_
  repeat' (first | refine aops_end ?_ | (refine aops_pd tok rfl rfl rfl rfl ?_ ?_ <;> intro e_) | refine aops_p tok rfl rfl rfl rfl ?_ | refine acode_it rfl ?_ | refine acode_if rfl ?_ | refine aops_ld tok 0 rfl rfl rfl rfl rfl rfl rfl rfl ?_ | refine aops_stn tok rfl rfl rfl rfl rfl rfl rfl rfl rfl ?_ | refine acode_seq ?_ | refine acode_region ?_ | refine acode_skip ?_ | refine then_n ?_)
  · refine acode_ret ?_
    repeat (refine ret_then ?_)
    exact ⟨_, rfl, resOf_tmp rfl⟩
  have hf : FoOk f := ⟨by omega, hk⟩
  have hv : VwL [⟨some bg, 7, [.int .i64 nm, .int .i64 kd, .int .i64 st, .psl rs.length (encs ruC rs), .nils, .psl rc.length (ints rc), .psl kc.length (ints kc)]⟩] [.agg [.int .i64 nm, .int .i64 kd, .int .i64 st, .psl rs.length (encs ruC rs), .nils, .psl rc.length (ints rc), .psl kc.length (ints kc)], foA f] [grA ⟨nm, kd, st, rs, [], rc, kc⟩, foA f] :=
    .cons (.agg (.cons (.refl _) (.cons (.refl _) (.cons (.refl _) (.cons (.refl _) (.cons .nils (.cons (.refl _) (.cons (.refl _) .nil)))))))) (.cons (.refl _) .nil)
  have hg0 : ((⟨nm, kd, st, rs, [], rc, kc⟩ : Gr).forbid).length ≤ 9223372036854775807 := by simp
  by_cases h : FForm f
  · have h1 := yes_of h (fcount_calls hg0 hf [])
    have h2 := yes_of h (fleft_calls hg0 hf [])
    rw [fcnt_none rfl h] at h1 h2
    have h3 := yes_of h (rtrees_calls hf [⟨some bg, 7, [.int .i64 nm, .int .i64 kd, .int .i64 st, .psl rs.length (encs ruC rs), .nils, .psl rc.length (ints rc), .psl kc.length (ints kc)]⟩])
    generalize trees f f.root.toNat = n at *
    refine aops_callx Try.func22 rfl rfl rfl rfl (acalls_view hv h1 rfl) rfl rfl rfl ?_
    repeat (first | refine aops_end ?_ | refine aops_p tok rfl rfl rfl rfl ?_ | refine acode_seq ?_ | refine acode_region ?_)
    refine aops_callx Try.func16 rfl rfl rfl rfl h3 rfl rfl rfl ?_
    repeat (first | refine aops_end ?_ | refine aops_p tok rfl rfl rfl rfl ?_ | refine acode_seq ?_ | refine acode_region ?_)
    rw [beq_self_eq_true n]
    repeat (refine aops_p tok rfl rfl rfl rfl ?_)
    refine aops_eqb tok rfl rfl rfl rfl rfl rfl rfl ?_
    rw [beq_self_eq_true (decide (n < great))]
    repeat (first | refine aops_p tok rfl rfl rfl rfl ?_ | refine aops_ld tok 0 rfl rfl rfl rfl rfl rfl rfl rfl ?_)
    refine aops_callx Try.func28 rfl rfl rfl rfl (acalls_view hv h2 rfl) rfl rfl rfl ?_
    repeat (refine aops_p tok rfl rfl rfl rfl ?_)
    refine aops_eqb tok rfl rfl rfl rfl rfl rfl rfl ?_
    rw [beq_self_eq_true (decide (n > 0))]
    repeat (first | refine aops_end ?_ | refine aops_p tok rfl rfl rfl rfl ?_)
    refine acode_ret ?_
    skip
    exact ⟨_, rfl, resOf_tmp rfl⟩
  · have h1 := no_of h (fcount_calls hg0 hf [])
    have h2 := no_of h (fleft_calls hg0 hf [])
    have h3 := no_of h (rtrees_calls hf [⟨some bg, 7, [.int .i64 nm, .int .i64 kd, .int .i64 st, .psl rs.length (encs ruC rs), .nils, .psl rc.length (ints rc), .psl kc.length (ints kc)]⟩])
    refine aops_callx Try.func22 rfl rfl rfl rfl (acalls_view hv h1 rfl) rfl rfl rfl ?_
    repeat (first | refine aops_end ?_ | refine aops_p tok rfl rfl rfl rfl ?_ | refine acode_seq ?_ | refine acode_region ?_)
    refine aops_callx Try.func16 rfl rfl rfl rfl h3 rfl rfl rfl ?_
    repeat (first | refine aops_end ?_ | refine aops_p tok rfl rfl rfl rfl ?_ | refine acode_seq ?_ | refine acode_region ?_)
    refine aops_eqb tok rfl rfl rfl rfl rfl rfl rfl ?_
    repeat (first | refine aops_p tok rfl rfl rfl rfl ?_ | refine aops_ld tok 0 rfl rfl rfl rfl rfl rfl rfl rfl ?_)
    refine aops_callx Try.func28 rfl rfl rfl rfl (acalls_view hv h2 rfl) rfl rfl rfl ?_
    repeat (refine aops_p tok rfl rfl rfl rfl ?_)
    refine aops_eqb tok rfl rfl rfl rfl rfl rfl rfl ?_
    repeat (first | refine aops_end ?_ | refine aops_p tok rfl rfl rfl rfl ?_)
    refine acode_ret ?_
    skip
    exact ⟨_, rfl, resOf_tmp rfl⟩
end Go.Proofs.Ytnlmfhnjjblhoaa.Ab
/- How many trees may be is how many there are among all that do. No condition. -/
set_option linter.unusedVariables false
set_option linter.unusedSimpArgs false
namespace Go.Proofs.Ytnlmfhnjjblhoaa.Ab

theorem filter_prod {α : Type} {Q : α → Bool} {R S : List α → Bool} {ls : List (List α)} : ∀ {l : List α}, (∀ x ∈ l, ∀ xs, S (x :: xs) = (Q x && R xs)) → ((prodL (l :: ls)).filter S).length = (l.filter Q).length * ((prodL ls).filter R).length
  | [], _ => by simp [prodL]
  | x :: l, h => by
    have ih := filter_prod (l := l) (ls := ls) (Q := Q) (R := R) (S := S) fun y hy => h y (by simp [hy])
    simp only [prodL] at ih
    simp only [prodL, List.flatMap_cons, List.filter_append, List.length_append]
    rw [ih, List.filter_map, List.length_map, List.filter_cons]
    have hx : ∀ xs, (S ∘ fun xs => x :: xs) xs = (Q x && R xs) := fun xs => h x (by simp) xs
    cases hq : Q x with
    | true =>
      have e : (S ∘ fun xs => x :: xs) = R := by funext xs; rw [hx, hq]; rfl
      rw [e, if_pos rfl, List.length_cons, Nat.add_mul, Nat.one_mul, Nat.add_comm]
    | false =>
      have e : (S ∘ fun xs => x :: xs) = fun _ => false := by funext xs; rw [hx, hq]; rfl
      rw [e, if_neg (by simp)]
      simp
/-- May a tree stand at a place of a rule? -/
def standB (fb : List F3) (r p : Int) (t : Tr) : Bool := !(decide (t.rule ≠ -1 ∧ (r, p, t.rule) ∈ fb)) && mayB fb t
theorem altGo_cnt {fb : List F3} {f : Fo} {g : Nat → List Int} {T : Nat → List Tr} {r : Int} : ∀ (ks : List Int) (p v : Nat), (∀ k : Nat, (k : Int) ∈ ks → ∀ p : Nat, kidGo fb r p (altsOf f k) (g k) 0 = sat (((T k).filter (standB fb r p)).length : Nat)) → altGo fb f g r p ks (sat v) = sat ((v * ((prodL (kidsL T ks)).filter (maysB fb r p)).length : Nat))
  | [], p, v, _ => by
    have : (prodL (kidsL T [])).filter (maysB fb r p) = [[]] := by simp [kidsL, prodL, maysB]
    rw [this]; simp [altGo]
  | k :: ks, p, v, hk => by
    have e : kidsL T (k :: ks) = (if 0 ≤ k then T k.toNat else [leafT k]) :: kidsL T ks := rfl
    rw [e, filter_prod (Q := standB fb r p) (R := maysB fb r (p + 1)) fun x _ xs => by rw [maysB]; rfl]
    simp only [altGo]
    split
    · rename_i h0
      obtain ⟨k', rfl⟩ := Int.eq_ofNat_of_zero_le h0
      have h1 := hk k' (by simp) p
      simp only [Int.toNat_natCast] at h1 ⊢
      rw [h1, mulN_sat (by omega) (by omega), ← Int.natCast_mul, altGo_cnt ks (p + 1) _ fun q hq => hk q (by simp [hq]), Nat.mul_assoc]
    · have h1 : [leafT k].filter (standB fb r p) = [leafT k] := by
        have : standB fb r p (leafT k) = true := by unfold standB leafT; rw [mayB_eq]; simp [Tr.rule]
        simp [this]
      rw [h1, altGo_cnt ks (p + 1) _ fun q hq => hk q (by simp [hq])]
      simp
theorem altL_rule {T : Nat → List Tr} {a : Al} : ∀ t ∈ altL T a, t.rule = a.rule := by
  intro t ht
  obtain ⟨o, _, rfl⟩ := List.mem_map.1 ht
  rfl
theorem kidGo_cnt {fb : List F3} {T : Nat → List Tr} {r p : Int} : ∀ (aS : List Al) (n : Nat), (∀ a ∈ aS, a.rule ≠ -1) → kidGo fb r p aS (aS.map fun a => sat (((altL T a).filter (mayB fb)).length : Nat)) (sat n) = sat ((n + ((aS.flatMap (altL T)).filter (standB fb r p)).length : Nat))
  | [], n, _ => by simp [kidGo]
  | a :: aS, n, h => by
    have ha := h a (by simp)
    simp only [List.map_cons, kidGo, List.flatMap_cons, List.filter_append, List.length_append]
    by_cases hm : (r, p, a.rule) ∈ fb
    · have : (altL T a).filter (standB fb r p) = [] := by
        rw [List.filter_eq_nil_iff]
        intro t ht
        unfold standB
        rw [altL_rule t ht]
        simp [ha, hm]
      rw [if_pos hm, this, kidGo_cnt aS n fun b hb => h b (by simp [hb])]
      simp
    · have : (altL T a).filter (standB fb r p) = (altL T a).filter (mayB fb) := List.filter_congr fun t ht => by
        unfold standB
        rw [altL_rule t ht]
        simp [hm]
      rw [if_neg hm, this, addN_sat (by omega) (by omega), ← Int.natCast_add, kidGo_cnt aS _ fun b hb => h b (by simp [hb]), Nat.add_assoc]
theorem ftr_cnt {fb : List F3} {f : Fo} (hr : ∀ i, ∀ a ∈ altsOf f i, a.rule ≠ -1) {i : Nat} (h : WF f i) : ftr fb f i = (altsOf f i).map fun a => sat (((altL (trL f) a).filter (mayB fb)).length : Nat) := by
  induction h with
  | @mk i hi hk hs ih =>
    rw [ftr_eq (.mk hi hk hs)]
    unfold nodeG
    refine List.map_congr_left fun a ha => ?_
    have h1 := altGo_cnt (fb := fb) (f := f) (g := ftr fb f) (T := trL f) (r := a.rule) a.kids 0 1 fun k hm p => by
      rw [ih k ⟨a, ha, hm⟩]
      have := kidGo_cnt (fb := fb) (T := trL f) (r := a.rule) (p := p) (altsOf f k) 0 (hr k)
      rw [show sat ((0 : Nat) : Int) = 0 from by decide, Nat.zero_add] at this
      rw [this, trL_eq (hs k ⟨a, ha, hm⟩)]
      rfl
    rw [show sat ((1 : Nat) : Int) = 1 from by decide, Nat.one_mul] at h1
    rw [h1]
    congr 2
    unfold altL
    rw [List.filter_map, List.length_map]
    congr 1
    refine List.filter_congr fun o ho => ?_
    show _ = mayB fb (Tr.mk a.rule 0 o)
    rw [mayB_eq]
    simp [Tr.rule, Tr.kids, hr i a ha]
theorem sumN_cnt {T : Nat → List Tr} {P : Tr → Bool} : ∀ (aS : List Al) (n : Nat), ((aS.map fun a => sat (((altL T a).filter P).length : Nat)).foldl addN (sat n)) = sat ((n + ((aS.flatMap (altL T)).filter P).length : Nat))
  | [], n => by simp
  | a :: aS, n => by
    simp only [List.map_cons, List.foldl_cons, List.flatMap_cons, List.filter_append, List.length_append]
    rw [addN_sat (by omega) (by omega), ← Int.natCast_add, sumN_cnt aS, Nat.add_assoc]
theorem ftr_sum {fb : List F3} {f : Fo} (hr : ∀ i, ∀ a ∈ altsOf f i, a.rule ≠ -1) {i : Nat} (h : WF f i) : sumN (ftr fb f i) = sat (((trL f i).filter (mayB fb)).length : Nat) := by
  rw [ftr_cnt hr h, trL_eq h]
  have := sumN_cnt (T := trL f) (P := mayB fb) (altsOf f i) 0
  rw [show sat ((0 : Nat) : Int) = 0 from by decide, Nat.zero_add] at this
  exact this
end Go.Proofs.Ytnlmfhnjjblhoaa.Ab
/- Chapter 23's law of all trees: the walk. No condition. -/
set_option linter.unusedVariables false
set_option linter.unusedSimpArgs false
namespace Go.Proofs.Ytnlmfhnjjblhoaa.Ab
attribute [local irreducible] thenA inBlockA ACode AOps put IntKind.wrap

theorem blt_rule {g : Gr} {ks : List Int} {N : Nat} {F : List (List Bool)} {o : List Ky} {f : Fo} (B : Blt g ks N F o f) : ∀ i, ∀ a ∈ altsOf f i, a.rule ≠ -1 := by
  intro i a ha
  by_cases hi : i < o.length
  · obtain ⟨s, x, y, m, e, hn⟩ := B.node i _ (List.getElem?_eq_getElem hi)
    rw [hn.alts] at ha
    obtain ⟨w, hw, rfl⟩ := List.mem_map.1 (sortK_mem.1 ha)
    obtain ⟨j, h1, _⟩ := hn.mine.way w hw
    show w.1 ≠ -1
    omega
  · unfold altsOf at ha
    rw [List.getElem?_eq_none (by rw [B.len]; omega)] at ha
    cases ha
set_option maxHeartbeats 32000000 in
theorem fall_main {g : Gr} {ks : List Int} (hg : GrOk g) (hk : ks.length ≤ 9223372036854775807) : ACalls Try.prog 7 [grA g, .psl ks.length (ints ks)] [] (fun r _ => r = .bool true) := by
  have hgr : great = 4611686018427387903 := rfl
  refine acalls_of_code 104 Try.func7 rfl rfl rfl ?_
  repeat (first | refine acode_seq ?_ | refine acode_region ?_)
  refine aops_boxf rfl rfl rfl rfl rfl rfl rfl ?_
  repeat (first | refine aops_end ?_ | refine aops_p tok rfl rfl rfl rfl ?_ | refine acode_seq ?_ | refine acode_region ?_)
  refine aops_callx Try.func20 rfl rfl rfl rfl (alive23_calls _) rfl rfl rfl ?_
  repeat (first | refine aops_end ?_ | refine aops_p tok rfl rfl rfl rfl ?_ | refine acode_seq ?_ | refine acode_region ?_)
  refine aops_call Try.func23 rfl rfl rfl rfl (check_calls hg _) rfl rfl ?_
  rintro y M1 ⟨⟨a0, rfl⟩, hM1⟩
  rw [hM1]
  repeat (first | refine aops_put rfl ?_ | refine aops_end ?_ | refine aops_p tok rfl rfl rfl rfl ?_ | refine acode_seq ?_ | refine acode_region ?_)
  refine aops_callb Try.func24 rfl rfl rfl rfl (few_calls _) rfl rfl rfl (fun hfew => ?_) (fun hfew => ?_)
  rotate_left
  · repeat' (first | refine aops_end ?_ | refine aops_o rfl rfl rfl ?_ | refine aops_p tok rfl rfl rfl rfl ?_ | refine acode_it rfl ?_ | refine acode_seq ?_ | refine acode_region ?_)
    refine acode_ret ?_
    repeat (refine ret_then ?_)
    exact ⟨_, rfl, resOf_tmp rfl⟩
  by_cases hk8 : ks.length ≤ 8
  rotate_left
  · repeat' (first | refine aops_end ?_ | refine aops_o rfl rfl rfl ?_ | refine aops_pbt tok rfl (by first | omega | decide) rfl rfl rfl ?_ | refine aops_pet tok rfl (by omega) rfl rfl rfl ?_ | refine aops_p tok rfl rfl rfl rfl ?_ | refine acode_it rfl ?_ | refine acode_seq ?_ | refine acode_region ?_)
    try any_goals (exfalso; omega)
    refine acode_ret ?_
    repeat (refine ret_then ?_)
    exact ⟨_, rfl, resOf_tmp rfl⟩
  by_cases hc : chkF g = 0
  rotate_left
  · repeat' (first | refine aops_end ?_ | refine aops_pbf tok rfl (by first | omega | decide) rfl rfl rfl ?_ | refine aops_pet tok rfl (by omega) rfl rfl rfl ?_ | (refine aops_pn tok rfl rfl rfl rfl ?_ ?_ <;> intro e_) | refine aops_p tok rfl rfl rfl rfl ?_ | refine acode_it rfl ?_ | refine acode_if rfl ?_ | refine acode_seq ?_ | refine acode_region ?_ | refine acode_skip ?_ | refine then_n ?_)
    try any_goals (exfalso; omega)
    refine acode_ret ?_
    repeat (refine ret_then ?_)
    exact ⟨_, rfl, resOf_tmp rfl⟩
  obtain ⟨N, hN⟩ : ∃ N : Nat, g.names = N := by
    have hform : (formF g).2 = 0 := by
      unfold chkF at hc
      split at hc
      · rename_i h1; exact absurd hc h1
      · rename_i h1; exact Classical.not_not.1 h1
    exact ⟨_, (form_ok hform).2⟩
  have hbc := fun M => build_calls (lim := 600) (n := ks.length) hg hc hN rfl (by omega) (by omega) M
  rw [show ((600 : Nat) : Int) = 600 from rfl] at hbc
  repeat' (first | refine aops_end ?_ | refine aops_pbf tok rfl (by first | omega | decide) rfl rfl rfl ?_ | (refine aops_pn tok rfl rfl rfl rfl ?_ ?_ <;> intro e_) | refine aops_p tok rfl rfl rfl rfl ?_ | refine acode_it rfl ?_ | refine acode_if rfl ?_ | refine acode_seq ?_ | refine acode_region ?_ | refine acode_skip ?_ | refine then_n ?_)
  try any_goals (exfalso; omega)
  refine aops_call Try.func21 rfl rfl rfl rfl (hbc _) rfl rfl ?_
  rintro y M2 ⟨hR, hM2⟩
  rw [hM2]
  rcases hR with ⟨a1, e1, he1, _, rfl⟩ | ⟨f, hbf, hf, hrg, rfl⟩
  · repeat (first | refine aops_put rfl ?_ | refine aops_p tok rfl rfl rfl rfl ?_)
    refine aops_alloc tok rfl rfl rfl rfl rfl rfl fun xb => ?_
    repeat (first | refine aops_p tok rfl rfl rfl rfl ?_ | refine aops_stn tok rfl rfl rfl rfl rfl rfl rfl rfl rfl ?_)
    refine aops_pubref0 8 rfl ?_
    repeat (first | refine aops_end ?_ | refine aops_p tok rfl rfl rfl rfl ?_ | refine acode_seq ?_ | refine acode_region ?_)
    refine aops_callx Try.func16 rfl rfl rfl rfl (no_of foE_no (rtrees_calls foE_ok _)) rfl rfl rfl ?_
    repeat' (first | refine aops_end ?_ | refine aops_o rfl rfl rfl ?_ | refine aops_pbt tok rfl (by first | omega | decide) rfl rfl rfl ?_ | (refine aops_pn tok rfl rfl rfl rfl ?_ ?_ <;> intro e_) | refine aops_p tok rfl rfl rfl rfl ?_ | refine acode_it rfl ?_ | refine acode_seq ?_ | refine acode_region ?_)
    try any_goals (exfalso; omega)
    refine acode_ret ?_
    repeat (refine ret_then ?_)
    exact ⟨_, rfl, resOf_tmp rfl⟩
  obtain ⟨F, o, B⟩ := blt_of hc hN hbf
  have hF := blt_form B
  have hw := hF.2 _ (by have := hF.1; omega : f.root.toNat < f.nodes.length)
  repeat (first | refine aops_put rfl ?_ | refine aops_p tok rfl rfl rfl rfl ?_)
  refine aops_alloc tok rfl rfl rfl rfl rfl rfl fun xb => ?_
  repeat (first | refine aops_p tok rfl rfl rfl rfl ?_ | refine aops_stn tok rfl rfl rfl rfl rfl rfl rfl rfl rfl ?_)
  refine aops_pubref0 8 rfl ?_
  repeat (first | refine aops_end ?_ | refine aops_p tok rfl rfl rfl rfl ?_ | refine acode_seq ?_ | refine acode_region ?_)
  refine aops_callx Try.func16 rfl rfl rfl rfl (yes_of hF (rtrees_calls hf _)) rfl rfl rfl ?_
  have htl := fun h => tr_len (f := f) hF h
  generalize trees f f.root.toNat = n at *
  generalize decide (n < great) = bd
  by_cases hn : n ≤ 100
  rotate_left
  · repeat' (first | refine aops_end ?_ | refine aops_o rfl rfl rfl ?_ | refine aops_pbt tok rfl (by first | omega | decide) rfl rfl rfl ?_ | refine aops_pbf tok rfl (by first | omega | decide) rfl rfl rfl ?_ | (refine aops_pn tok rfl rfl rfl rfl ?_ ?_ <;> intro e_) | refine aops_p tok rfl rfl rfl rfl ?_ | refine acode_it rfl ?_ | refine acode_if rfl ?_ | refine acode_seq ?_ | refine acode_region ?_ | refine acode_skip ?_ | refine then_n ?_)
    try any_goals (exfalso; omega)
    refine acode_ret ?_
    repeat (refine ret_then ?_)
    exact ⟨_, rfl, resOf_tmp rfl⟩
  obtain ⟨hte, hb⟩ := htl (by omega)
  clear htl
  have hlg := fun M => yes_of hF (largest_calls hf M)
  have hlb := fun (h : big f f.root.toNat ≤ 2000) => And.intro (big_lim hw (by omega)) (big_tr hw (by show _ < 1099511627776; omega))
  generalize big f f.root.toNat = bg at *
  repeat' (first | refine aops_end ?_ | refine aops_o rfl rfl rfl ?_ | refine aops_pbt tok rfl (by first | omega | decide) rfl rfl rfl ?_ | refine aops_pbf tok rfl (by first | omega | decide) rfl rfl rfl ?_ | (refine aops_pn tok rfl rfl rfl rfl ?_ ?_ <;> intro e_) | refine aops_p tok rfl rfl rfl rfl ?_ | refine acode_if rfl ?_ | refine acode_seq ?_ | refine acode_region ?_ | refine acode_skip ?_ | refine then_n ?_)
  try any_goals (exfalso; omega)
  refine aops_callx Try.func25 rfl rfl rfl rfl (hlg _) rfl rfl rfl ?_
  by_cases hbig : bg ≤ 2000
  rotate_left
  · repeat' (first | refine aops_end ?_ | refine aops_pbt tok rfl (by first | omega | decide) rfl rfl rfl ?_ | refine aops_pet tok rfl (by omega) rfl rfl rfl ?_ | refine acode_it rfl ?_ | refine acode_seq ?_ | refine acode_region ?_)
    try any_goals (exfalso; omega)
    refine acode_ret ?_
    repeat (refine ret_then ?_)
    exact ⟨_, rfl, resOf_tmp rfl⟩
  obtain ⟨hlim, hsz⟩ := hlb hbig
  have hA := fun M => yes_of hF (rall_calls hf hrg (fun _ => hlim) (fun _ => hb) 200 M)
  rw [show cutN 200 = 200 from by decide, List.take_of_length_le (by omega), decide_eq_true (by omega)] at hA
  have hgf : g.forbid.length ≤ 9223372036854775807 := by have := B.fo.fl; omega
  have hfc : fcnt g f = ((trL f f.root.toNat).filter (mayB g.forbid)).length := by
    unfold fcnt
    rw [ftr_sum (blt_rule B) hw, sat_small]
    have := List.length_filter_le (mayB g.forbid) (trL f f.root.toNat)
    omega
  have hC := fun M => yes_of hF (fcount_calls (g := g) hgf hf M)
  have hD := fun M => yes_of hF (fleft_calls (g := g) hgf hf M)
  rw [hfc] at hC hD
  have hcl := List.length_filter_le (mayB g.forbid) (trL f f.root.toNat)
  generalize trL f f.root.toNat = L at *
  rw [decide_eq_true (by omega)] at hC
  repeat' (first | refine aops_end ?_ | refine aops_pbf tok rfl (by first | omega | decide) rfl rfl rfl ?_ | refine aops_p tok rfl rfl rfl rfl ?_ | refine acode_if rfl ?_ | refine acode_seq ?_ | refine acode_region ?_ | refine acode_skip ?_ | refine then_n ?_)
  try any_goals (exfalso; omega)
  refine aops_callx Try.func26 rfl rfl rfl rfl (hA _) rfl rfl rfl ?_
  repeat (first | refine aops_end ?_ | refine aops_p tok rfl rfl rfl rfl ?_ | refine acode_seq ?_ | refine acode_region ?_ | refine acode_block ?_)
  refine acode_loopS (ι := Nat) (fun k => [(2, .pp (grC g)), (8, .pp (foC f)), (13, .psl L.length (encs trC L)), (15, .int .i64 ((L.take k).filter (mayB g.forbid)).length), (16, .int .i64 k)]) (fun _ => []) (fun k => L.length - k) (fun k => k ≤ L.length) 0 (Nat.zero_le _) ⟨rfl, rfl, rfl, rfl, rfl, trivial⟩ rfl ?_
  rintro k hk2
  have hck : ((L.take k).filter (mayB g.forbid)).length ≤ 100 := by
    have := List.length_filter_le (mayB g.forbid) (L.take k)
    rw [List.length_take] at this
    omega
  repeat (first | refine aops_end ?_ | refine aops_p tok rfl rfl rfl rfl ?_ | refine acode_seq ?_ | refine acode_region ?_)
  refine acode_id rfl (fun e => ?_) (fun e => ?_)
  · have hkl : k < L.length := by omega
    obtain ⟨t, ht⟩ : ∃ t, L[k]? = some t := ⟨L[k], List.getElem?_eq_getElem hkl⟩
    have hts := hsz t (List.mem_of_getElem? ht)
    have htk : L.take (k + 1) = L.take k ++ [t] := by rw [List.take_add_one, ht]; rfl
    have hM := fun M => fmay_calls (g := g) hgf (t := t) (by omega) M
    rw [trC_eq] at hM
    repeat (first | refine acode_seq ?_ | refine acode_block ?_ | refine acode_skip ?_ | refine then_n ?_)
    refine acode_drawT 6 mixed (by kernel_rfl) (by kernel_rfl) ?_
    repeat (refine seqT_p tok rfl rfl rfl rfl ?_)
    refine seqT_ix tok [.int .i64 t.rule, .int .i64 t.tok, .psl t.kids.length (encs trC t.kids)] rfl rfl rfl rfl (by omega) (by omega) (by simp) (by rw [← trC_eq]; exact tr_at (by simpa using ht)) rfl rfl rfl ?_
    repeat (refine seqT_p tok rfl rfl rfl rfl ?_)
    refine seqT_call _ Try.func27 rfl rfl rfl rfl (hM _) rfl rfl rfl ?_
    skip
    refine SeqT.done ?_
    cases hmb : mayB g.forbid t with
    | true =>
      have hle : ((L.take (k + 1)).filter (mayB g.forbid)).length = ((L.take k).filter (mayB g.forbid)).length + 1 := by rw [htk, List.filter_append]; simp [hmb]
      repeat' (first | refine aops_end ?_ | refine aops_endb ?_ | refine aops_a tok rfl (by omega) (by omega) rfl rfl rfl ?_ | refine aops_p tok rfl rfl rfl rfl ?_ | refine acode_it rfl ?_ | refine acode_region ?_ | refine then_n ?_)
      exact ⟨k + 1, by omega, by omega, ⟨rfl, rfl, rfl, congrArg (A.int .i64) (by rw [hle]; omega), rfl, trivial⟩, rfl⟩
    | false =>
      have hle : ((L.take (k + 1)).filter (mayB g.forbid)).length = ((L.take k).filter (mayB g.forbid)).length := by rw [htk, List.filter_append]; simp [hmb]
      repeat' (first | refine aops_end ?_ | refine aops_a tok rfl (by omega) (by omega) rfl rfl rfl ?_ | refine aops_p tok rfl rfl rfl rfl ?_ | refine acode_if rfl ?_ | refine acode_region ?_ | refine acode_skip ?_ | refine then_n ?_ | refine block_n ?_)
      exact ⟨k + 1, by omega, by omega, ⟨rfl, rfl, rfl, congrArg (A.int .i64) (by rw [hle]), rfl, trivial⟩, rfl⟩
  · obtain rfl : k = L.length := by omega
    rw [List.take_length] at hck ⊢
    refine acode_exit ?_
    repeat (first | refine exit_then ?_ | refine exit_here ?_ | refine then_n ?_)
    generalize (L.filter (mayB g.forbid)).length = c at *
    repeat (first | refine aops_p tok rfl rfl rfl rfl ?_ | refine acode_seq ?_ | refine acode_region ?_)
    refine aops_callx Try.func22 rfl rfl rfl rfl (hC _) rfl rfl rfl ?_
    repeat' (first | refine aops_end ?_ | refine aops_pbt tok rfl (by first | omega | decide) rfl rfl rfl ?_ | refine aops_p tok rfl rfl rfl rfl ?_ | refine acode_seq ?_ | refine acode_region ?_)
    try any_goals (exfalso; omega)
    refine aops_callx Try.func28 rfl rfl rfl rfl (hD _) rfl rfl rfl ?_
    by_cases hc0 : (c : Int) > 0
    · rw [decide_eq_true hc0]
      repeat' (first | refine aops_pbt tok rfl (by first | omega | decide) rfl rfl rfl ?_ | refine aops_p tok rfl rfl rfl rfl ?_)
      try any_goals (exfalso; omega)
      refine aops_eqb tok rfl rfl rfl rfl rfl rfl rfl ?_
      repeat (first | refine aops_end ?_ | refine aops_p tok rfl rfl rfl rfl ?_)
      refine acode_ret ?_
      skip
      exact ⟨_, rfl, resOf_tmp rfl⟩
    · rw [decide_eq_false hc0]
      repeat' (first | refine aops_pbf tok rfl (by first | omega | decide) rfl rfl rfl ?_ | refine aops_p tok rfl rfl rfl rfl ?_)
      try any_goals (exfalso; omega)
      refine aops_eqb tok rfl rfl rfl rfl rfl rfl rfl ?_
      repeat (first | refine aops_end ?_ | refine aops_p tok rfl rfl rfl rfl ?_)
      refine acode_ret ?_
      skip
      exact ⟨_, rfl, resOf_tmp rfl⟩
theorem filterAll_calls (zs : List A) (h : GoodL T [43, 26] zs) : ACalls Try.prog 7 zs [] (fun r _ => r = .bool true) := by
  obtain ⟨_, _, rfl, ⟨f1, g1⟩, _, _, rfl, ⟨f2, g2⟩, rfl⟩ := h
  obtain ⟨g, rfl, hg⟩ := good_gr g1
  obtain ⟨ks, rfl, hk⟩ := good_ints (e := 3) (k := .i64) rfl rfl g2
  exact fall_main hg (Nat.le_trans hk (by decide))
end Go.Proofs.Ytnlmfhnjjblhoaa.Ab
/- Small forests: how the kernel tells them. No condition. -/
set_option linter.unusedVariables false
set_option linter.unusedSimpArgs false
namespace Go.Proofs.Ytnlmfhnjjblhoaa.Ab

def lsEq {α : Type} (eq : α → α → Bool) : List α → List α → Bool
  | [], [] => true
  | a :: l, b :: m => eq a b && lsEq eq l m
  | _, _ => false
theorem lsEq_eq {α : Type} {eq : α → α → Bool} (h : ∀ a b, eq a b = true → a = b) : ∀ l m, lsEq eq l m = true → l = m
  | [], [], _ => rfl
  | [], _ :: _, e => by simp [lsEq] at e
  | _ :: _, [], e => by simp [lsEq] at e
  | a :: l, b :: m, e => by
    simp only [lsEq, Bool.and_eq_true] at e
    rw [h a b e.1, lsEq_eq h l m e.2]
def alEq (a b : Al) : Bool := decide (a.rule = b.rule) && decide (a.kids = b.kids)
theorem alEq_eq (a b : Al) (h : alEq a b = true) : a = b := by
  obtain ⟨a1, a2⟩ := a; obtain ⟨b1, b2⟩ := b
  simp only [alEq, Bool.and_eq_true, decide_eq_true_eq] at h
  rw [h.1, h.2]
def ndEq (a b : Nd) : Bool := decide (a.sym = b.sym) && decide (a.fr = b.fr) && decide (a.to = b.to) && lsEq alEq a.alts b.alts
theorem ndEq_eq (a b : Nd) (h : ndEq a b = true) : a = b := by
  obtain ⟨a1, a2, a3, a4⟩ := a; obtain ⟨b1, b2, b3, b4⟩ := b
  simp only [ndEq, Bool.and_eq_true, decide_eq_true_eq] at h
  rw [h.1.1.1, h.1.1.2, h.1.2, lsEq_eq alEq_eq _ _ h.2]
def isF (x : Option Fo × Int) (f : Fo) : Bool := match x.1 with
  | some y => lsEq ndEq y.nodes f.nodes && decide (y.root = f.root)
  | none => false
theorem isF_some {x : Option Fo × Int} {f : Fo} (h : isF x f = true) : x.1 = some f := by
  obtain ⟨x1, x2⟩ := x
  cases x1 with
  | none => simp [isF] at h
  | some y =>
    obtain ⟨y1, y2⟩ := y; obtain ⟨f1, f2⟩ := f
    simp only [isF, Bool.and_eq_true, decide_eq_true_eq] at h
    rw [lsEq_eq ndEq_eq _ _ h.1, h.2]
/-- A list of numbers of trees, one for each node. -/
def tabOk (f : Fo) (tab : List Int) : Bool := (List.range f.nodes.length).all fun i => decide (tab.getD i 0 = altsF (fun k => tab.getD k 0) 0 (altsOf f i))
theorem trees_tab {f : Fo} {tab : List Int} (h : tabOk f tab = true) {i : Nat} (hw : WF f i) : trees f i = tab.getD i 0 := by
  refine recT_one (F := fun T i => altsF T 0 (altsOf f i)) (fun g h i hk => altsF_congr _ _ fun a ha k hm => hk k ⟨a, ha, hm⟩) (fun i hi => trees_eq hi) (S := fun i => tab.getD i 0) (fun i hi => ?_) hw
  unfold tabOk at h
  rw [List.all_eq_true] at h
  simpa using h i (List.mem_range.2 hi.lt)
def ftabOk (fb : List F3) (f : Fo) (tab : List (List Int)) : Bool := (List.range f.nodes.length).all fun i => decide (tab.getD i [] = nodeG fb f (fun k => tab.getD k []) i)
theorem ftr_tab {fb : List F3} {f : Fo} {tab : List (List Int)} (h : ftabOk fb f tab = true) {i : Nat} (hw : WF f i) : ftr fb f i = tab.getD i [] := by
  refine recT_one (F := nodeG fb f) (fun g h i hk => nodeG_congr hk) (fun i hi => ftr_eq hi) (S := fun i => tab.getD i []) (fun i hi => ?_) hw
  unfold ftabOk at h
  rw [List.all_eq_true] at h
  simpa using h i (List.mem_range.2 hi.lt)
/-- A forest that is small in all. -/
def smOk (f : Fo) : Bool := decide (f.nodes.length ≤ 1000) && f.nodes.all fun n => decide (n.alts.length ≤ 1000) && n.alts.all fun a => decide (a.kids.length ≤ 1000) && a.kids.all fun k => decide (-1000000 ≤ k ∧ k ≤ 1000000)
theorem smOk_is {f : Fo} (h : smOk f = true) : f.nodes.length ≤ 1000 ∧ ∀ n ∈ f.nodes, n.alts.length ≤ 1000 ∧ ∀ a ∈ n.alts, a.kids.length ≤ 1000 ∧ ∀ k ∈ a.kids, -1000000 ≤ k ∧ k ≤ 1000000 := by
  unfold smOk at h
  rw [Bool.and_eq_true, List.all_eq_true, decide_eq_true_eq] at h
  refine ⟨h.1, fun n hn => ?_⟩
  have h1 := h.2 n hn
  rw [Bool.and_eq_true, List.all_eq_true, decide_eq_true_eq] at h1
  refine ⟨h1.1, fun a ha => ?_⟩
  have h2 := h1.2 a ha
  rw [Bool.and_eq_true, List.all_eq_true, decide_eq_true_eq] at h2
  exact ⟨h2.1, fun k hk => by simpa using h2.2 k hk⟩
theorem sm_fo {f : Fo} (h : smOk f = true) : FoOk f ∧ FoRng f := by
  obtain ⟨h1, h2⟩ := smOk_is h
  refine ⟨⟨by omega, fun n hn => ⟨by have := (h2 n hn).1; omega, fun a ha => by have := ((h2 n hn).2 a ha).1; omega⟩⟩, fun n hn a ha k hk => ?_⟩
  have := ((h2 n hn).2 a ha).2 k hk
  unfold rng; omega
theorem lim_low {f : Fo} (h : smOk f = true) {i : Nat} (hw : WF f i) : Lim f i := by
  induction hw with
  | @mk i hi hk hs ih =>
    refine .mk (fun a ha => ?_) ih
    obtain ⟨nd, hnd, hndm, hal⟩ := nodes_at hi
    rw [hal] at ha
    have := (((smOk_is h).2 nd hndm).2 a ha).1
    omega
def gC : Gr := ⟨1, 1, 0, [⟨0, [0, 0], 0⟩, ⟨0, [-1], 0⟩], [], [], []⟩
def catW : List Int := [0, 1, 1, 2, 5, 14, 42, 132]
/-- What is told of a row of so many tokens. -/
def CatOk (n : Nat) (w : Int) : Prop := ∃ f tab, (buildF gC (List.replicate n 0) 3000).1 = some f ∧ smOk f = true ∧ tabOk f tab = true ∧ tab.getD f.root.toNat 0 = w
theorem catOk_of {n : Nat} {w : Int} {f : Fo} {tab : List Int} (h1 : isF (buildF gC (List.replicate n 0) 3000) f = true) (h2 : smOk f = true) (h3 : tabOk f tab = true) (h4 : tab.getD f.root.toNat 0 = w) : CatOk n w := ⟨f, tab, isF_some h1, h2, h3, h4⟩
def gS : Gr := ⟨1, 2, 0, [⟨0, [-1], 0⟩, ⟨0, [0, -2, 0], 0⟩], [], [], []⟩
def ksS : Nat → List Int
  | 0 => [0]
  | n + 1 => ksS n ++ [1, 0]
def SidOk (f : Fo) (fb : List F3) (w : Int) : Prop := ∃ tab, smOk f = true ∧ ftabOk fb f tab = true ∧ sumN (tab.getD f.root.toNat []) = w
theorem sidOk_of {f : Fo} {fb : List F3} {w : Int} {tab : List (List Int)} (h1 : smOk f = true) (h2 : ftabOk fb f tab = true) (h3 : sumN (tab.getD f.root.toNat []) = w) : SidOk f fb w := ⟨tab, h1, h2, h3⟩
def fbL (l : Bool) : List F3 := if l then [(1, 0, 1)] else []
def fbR (r : Bool) : List F3 := if r then [(1, 2, 1)] else []
def fbOf (l r : Bool) : List F3 := fbL l ++ fbR r
def sidW : List Int := [1, 1, 2, 5, 14, 42, 132, 429, 1430]
def wantF (m : Nat) (l r : Bool) : Int := if (l && r) = true ∧ 2 < m then 0 else if (l || r) = true ∧ 1 < m then 1 else sidW.getD (m - 1) 0
theorem ksS_len : ∀ n, (ksS n).length = 2 * n + 1
  | 0 => rfl
  | n + 1 => by rw [ksS, List.length_append, ksS_len n]; simp; omega
/-- What Build makes hangs on the names, the start and the rules alone. -/
theorem mineS_eq {g h : Gr} (h3 : g.rules = h.rules) : mineS g = mineS h := by
  have hr : ruleAt g = ruleAt h := by funext j; unfold ruleAt; rw [h3]
  unfold mineS; rw [hr]
theorem mineF_eq {g h : Gr} (h3 : g.rules = h.rules) : mineF g = mineF h := by
  unfold mineF; rw [h3, mineS_eq h3]
theorem bldQ_eq {g h : Gr} (h3 : g.rules = h.rules) {ks : List Int} {n : Nat} {F : List (List Bool)} {lim : Nat} : ∀ (q i : Nat) (keys : List Ky) (all : List (List Wy)) (c : Nat), bldQ g ks n F lim q i keys all c = bldQ h ks n F lim q i keys all c
  | 0, _, _, _, _ => rfl
  | q + 1, i, keys, all, c => by
    rw [bldQ, bldQ, mineF_eq h3]
    cases keys[i]? with
    | none => rfl
    | some k =>
      simp only
      split
      · rfl
      · exact bldQ_eq h3 q _ _ _ _
theorem buildF_eq {g h : Gr} (h1 : g.names = h.names) (h2 : g.start = h.start) (h3 : g.rules = h.rules) (ks : List Int) (lim : Nat) : buildF g ks lim = buildF h ks lim := by
  have hc : chF g = chF h := by funext ks N n; unfold chF chI; rw [h3]
  unfold buildF
  rw [h1, h2, hc]
  simp only [bldQ_eq h3]
end Go.Proofs.Ytnlmfhnjjblhoaa.Ab

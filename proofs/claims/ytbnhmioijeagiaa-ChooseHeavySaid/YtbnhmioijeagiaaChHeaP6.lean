/- Texts of this proof, one behind the other (Hv3). No condition. -/
import Derived.Test.YtbnhmioijeagiaaChHeaP5
/- Chapter 24's law of rules that say the same: the walk. No condition. -/
set_option linter.unusedVariables false
set_option linter.unusedSimpArgs false
namespace Go.Proofs.Ytbnhmioijeagiaa.Ab
attribute [local irreducible] thenA inBlockA ACode AOps put IntKind.wrap

def andV (x : Int) : Int := IntKind.i64.wrap ↑(BitVec.ofInt 64 x &&& BitVec.ofInt 64 511).toNat
theorem andV_rng (x : Int) : 0 ≤ andV x ∧ andV x ≤ 511 := by
  have h : (BitVec.ofInt 64 x &&& BitVec.ofInt 64 511).toNat ≤ 511 := by
    rw [BitVec.toNat_and]
    exact Nat.le_trans Nat.and_le_right (by decide)
  unfold andV
  rw [wrap64_small (by omega) (by omega)]
  omega
set_option maxHeartbeats 32000000 in
theorem heavy_main {dl : List Int} {n : Int} : ACalls Try.prog 8 [.psl dl.length (ints dl), .int .i64 n] [] (fun x _ => x = .bool true) := by
  refine acalls_of_code 138 Try.func8 rfl rfl rfl ?_
  repeat (first | refine aops_end ?_ | refine aops_p tok rfl rfl rfl rfl ?_ | refine acode_seq ?_ | refine acode_region ?_)
  refine aops_callx Try.func17 rfl rfl rfl rfl (alive24_calls _) rfl rfl rfl ?_
  by_cases hl1 : 1 ≤ dl.length
  rotate_left
  · repeat' (first | refine aops_end ?_ | refine aops_o rfl rfl rfl ?_ | refine aops_pbt tok rfl (by first | omega | decide) rfl rfl rfl ?_ | refine aops_p tok rfl rfl rfl rfl ?_ | refine acode_it rfl ?_ | refine acode_seq ?_ | refine acode_region ?_)
    try any_goals (exfalso; omega)
    refine acode_ret ?_
    repeat (refine ret_then ?_)
    exact ⟨_, rfl, resOf_tmp rfl⟩
  by_cases hl2 : dl.length ≤ 20
  rotate_left
  · repeat' (first | refine aops_end ?_ | refine aops_o rfl rfl rfl ?_ | refine aops_pbt tok rfl (by first | omega | decide) rfl rfl rfl ?_ | refine aops_pbf tok rfl (by first | omega | decide) rfl rfl rfl ?_ | refine aops_p tok rfl rfl rfl rfl ?_ | refine acode_it rfl ?_ | refine acode_seq ?_ | refine acode_region ?_)
    try any_goals (exfalso; omega)
    refine acode_ret ?_
    repeat (refine ret_then ?_)
    exact ⟨_, rfl, resOf_tmp rfl⟩
  by_cases hn1 : 1 ≤ n
  rotate_left
  · repeat' (first | refine aops_end ?_ | refine aops_o rfl rfl rfl ?_ | refine aops_pbt tok rfl (by first | omega | decide) rfl rfl rfl ?_ | refine aops_pbf tok rfl (by first | omega | decide) rfl rfl rfl ?_ | refine aops_p tok rfl rfl rfl rfl ?_ | refine acode_it rfl ?_ | refine acode_seq ?_ | refine acode_region ?_)
    try any_goals (exfalso; omega)
    refine acode_ret ?_
    repeat (refine ret_then ?_)
    exact ⟨_, rfl, resOf_tmp rfl⟩
  by_cases hn6 : n ≤ 6
  rotate_left
  · repeat' (first | refine aops_end ?_ | refine aops_pbt tok rfl (by first | omega | decide) rfl rfl rfl ?_ | refine aops_pbf tok rfl (by first | omega | decide) rfl rfl rfl ?_ | refine aops_p tok rfl rfl rfl rfl ?_ | refine acode_it rfl ?_ | refine acode_seq ?_ | refine acode_region ?_)
    try any_goals (exfalso; omega)
    refine acode_ret ?_
    repeat (refine ret_then ?_)
    exact ⟨_, rfl, resOf_tmp rfl⟩
  obtain ⟨m, rfl⟩ : ∃ m : Nat, n = (m : Int) := ⟨n.toNat, by omega⟩
  have hdm : ∀ d ∈ dl.map andV, 0 ≤ d ∧ d ≤ 511 := fun d hd => by
    obtain ⟨x, _, rfl⟩ := List.mem_map.1 hd
    exact andV_rng x
  have H := hv_is (n := m) (ds := dl.map andV) (by omega) (by omega) (by rw [List.length_map]; exact hl1) (by rw [List.length_map]; exact hl2) hdm
  repeat' (first | refine aops_end ?_ | refine aops_pbf tok rfl (by first | omega | decide) rfl rfl rfl ?_ | refine aops_p tok rfl rfl rfl rfl ?_ | refine acode_if rfl ?_ | refine acode_seq ?_ | refine acode_region ?_ | refine acode_skip ?_ | refine then_n ?_)
  try any_goals (exfalso; omega)
  refine aops_lito tok rfl rfl rfl rfl rfl rfl rfl fun rb => ?_
  repeat (refine aops_p tok rfl rfl rfl rfl ?_)
  refine aops_alloc tok rfl rfl rfl rfl rfl rfl fun gb => ?_
  repeat (first | refine aops_end ?_ | refine aops_p tok rfl rfl rfl rfl ?_ | refine aops_stn tok rfl rfl rfl rfl rfl rfl rfl rfl rfl ?_ | refine acode_seq ?_ | refine acode_region ?_ | refine acode_block ?_)
  refine acode_perm [⟨some rb, 3, [.int .i64 0, .nils, .int .i64 0]⟩, ⟨some gb, 7, [.int .i64 2, .int .i64 1, .int .i64 0, .own (some rb) 1 1, .nils, .nils, .nils]⟩] (List.Perm.swap _ _ _) ?_
  refine acode_adoptF 1 rfl rfl ?_
  refine acode_loopS (ι := Nat × Option Nat × Nat) (fun p => [(0, .psl dl.length (ints dl)), (1, .int .i64 m), (6, .ref gb 0), (7, .int .i64 p.1)]) (fun p => [⟨some rb, 3, [.int .i64 0, .own p.2.1 p.1 p.2.2, .int .i64 0]⟩, ⟨p.2.1, p.2.2 * 1, ints (List.replicate p.1 1)⟩, ⟨some gb, 7, [.int .i64 2, .int .i64 1, .int .i64 0, .own (some rb) 1 1, .nils, .nils, .nils]⟩]) (fun p => m - p.1) (fun p => p.1 ≤ m) (0, none, 0) (Nat.zero_le _) ⟨rfl, rfl, rfl, rfl, trivial⟩ rfl ?_
  rintro ⟨i, ob, cap⟩ hi
  simp only at hi ⊢
  repeat (first | refine aops_end ?_ | refine aops_p tok rfl rfl rfl rfl ?_ | refine acode_seq ?_ | refine acode_region ?_)
  refine acode_id rfl (fun e => ?_) (fun e => ?_)
  · repeat (first | refine acode_seq ?_ | refine acode_block ?_ | refine acode_skip ?_ | refine then_n ?_)
    refine acode_drawP [⟨some rb, 3, [.int .i64 0, .own ob i cap, .int .i64 0]⟩, ⟨some gb, 7, [.int .i64 2, .int .i64 1, .int .i64 0, .own (some rb) 1 1, .nils, .nils, .nils]⟩] 9 [0, 1, 2, 3, 4, 5, 6, 7, 8] [8] mixed (by kernel_rfl) (by kernel_rfl) rfl ?_
    repeat (first | refine seqO_p tok rfl rfl rfl rfl rfl ?_ | refine seqO_ld tok 1 rfl rfl rfl rfl rfl (by simp) rfl rfl rfl rfl ?_)
    refine seqO_ixo tok rfl rfl rfl rfl rfl (by decide) (by decide) rfl rfl rfl ?_
    repeat (first | refine seqO_p tok rfl rfl rfl rfl rfl ?_ | refine seqO_ld tok 0 rfl rfl rfl rfl rfl (by simp) rfl rfl rfl rfl ?_)
    refine seqO_lit tok rfl rfl rfl rfl rfl rfl rfl rfl rfl ?_
    refine seqO_app tok 1 (m := 1) (ds := ints [1]) rfl rfl rfl rfl (.inl rfl) rfl rfl (by rw [ints_len, List.length_replicate, Nat.mul_one]) rfl rfl rfl (by show _ * 8 ≤ _; omega) (by omega) (by intro y o ho; simp at ho ⊢; rcases ho with rfl | rfl <;> simp) rfl rfl rfl fun ob' cap' => ?_
    skip
    refine SeqO.done ?_
    refine aops_somed 55 rfl (by omega) fun c hc => ?_
    subst hc
    refine aops_ixo tok rfl rfl rfl rfl (by decide) (by decide) rfl rfl rfl ?_
    repeat (first | refine aops_end ?_ | refine aops_endb ?_ | refine aops_a tok rfl (by omega) (by omega) rfl rfl rfl ?_ | refine aops_p tok rfl rfl rfl rfl ?_ | refine aops_stn tok rfl rfl rfl rfl rfl rfl rfl rfl rfl ?_ | refine acode_region ?_ | refine then_n ?_)
    refine ⟨(i + 1, some c, cap'), by simp only; omega, by simp only; omega, ⟨rfl, rfl, rfl, rfl, trivial⟩, ?_⟩
    simp only [show List.replicate (i + 1) (1 : Int) = List.replicate i 1 ++ [1] by rw [List.replicate_succ'], ints_app]
    rfl
  obtain rfl : i = m := by omega
  refine acode_exit ?_
  repeat (first | refine exit_then ?_ | refine exit_here ?_ | refine then_n ?_)
  refine acode_pubFld (sz := 1) 1 rfl rfl (by rw [ints_len, List.length_replicate, Nat.mul_one]) (by decide) rfl ?_
  refine acode_perm [⟨some gb, 7, [.int .i64 2, .int .i64 1, .int .i64 0, .own (some rb) 1 1, .nils, .nils, .nils]⟩, ⟨some rb, 3, [.int .i64 0, .psl i (ints (List.replicate i 1)), .int .i64 0]⟩] (List.Perm.swap _ _ _) ?_
  repeat (first | refine aops_end ?_ | refine aops_p tok rfl rfl rfl rfl ?_ | refine acode_seq ?_ | refine acode_region ?_ | refine acode_block ?_)
  generalize hds : dl.map andV = ds at *
  have hdl : ds.length = dl.length := by rw [← hds, List.length_map]
  have hdat : ∀ {j : Nat} {x : Int}, dl[j]? = some x → ds[j]? = some (andV x) ∧ ds.getD j 0 = andV x := fun {j x} h => by
    have : ds[j]? = some (andV x) := by rw [← hds, List.getElem?_map, h]; rfl
    exact ⟨this, by rw [List.getD_eq_getElem?_getD, this]; rfl⟩
  refine acode_loopS (ι := Nat × Nat × Nat) (fun p => [(0, .psl dl.length (ints dl)), (1, .int .i64 i), (6, .ref gb 0), (8, .int .i64 (bstV ds p.1)), (9, .int .i64 p.1)]) (fun p => [⟨some gb, 7, [.int .i64 2, .int .i64 1, .int .i64 0, .own (some p.2.1) (p.1 + 1) p.2.2, .nils, .nils, .nils]⟩, ⟨some p.2.1, p.2.2 * 3, [.int .i64 0, .psl i (ints (List.replicate i 1)), .int .i64 0] ++ encs ruC ((ds.take p.1).map ruV)⟩]) (fun p => dl.length - p.1) (fun p => p.1 ≤ dl.length) (0, rb, 1) (Nat.zero_le _) ⟨rfl, rfl, rfl, rfl, rfl, trivial⟩ rfl ?_
  rintro ⟨j, rob, rcap⟩ hj
  simp only at hj ⊢
  repeat (first | refine aops_end ?_ | refine aops_p tok rfl rfl rfl rfl ?_ | refine acode_seq ?_ | refine acode_region ?_)
  refine acode_id rfl (fun e => ?_) (fun e => ?_)
  · have hjl : j < dl.length := by omega
    obtain ⟨x, hx⟩ : ∃ x, dl[j]? = some x := ⟨dl[j], List.getElem?_eq_getElem hjl⟩
    obtain ⟨hx1, hx2⟩ := hdat hx
    have hbl : bstV ds j < dl.length := by
      cases j with
      | zero => show 0 < _; omega
      | succ j => have := bstV_le ds j; omega
    have hbs : bstV ds (j + 1) = if ds.getD j 0 > ds.getD (bstV ds j) 0 then j else bstV ds j := by rw [bstV]
    generalize bstV ds j = bb at *
    obtain ⟨z, hz⟩ : ∃ z, dl[bb]? = some z := ⟨dl[bb], List.getElem?_eq_getElem hbl⟩
    obtain ⟨hz1, hz2⟩ := hdat hz
    rw [hx2, hz2] at hbs
    have htk : ds.take (j + 1) = ds.take j ++ [andV x] := by rw [List.take_add_one, hx1]; rfl
    obtain ⟨x0, x5⟩ := andV_rng x
    obtain ⟨z0, z5⟩ := andV_rng z
    repeat (first | refine aops_p tok rfl rfl rfl rfl ?_ | refine acode_seq ?_ | refine acode_region ?_ | refine acode_block ?_ | refine acode_skip ?_ | refine then_n ?_)
    refine aops_ix tok [A.int .i64 x] rfl rfl rfl rfl (by omega) (by omega) (by simp) (ints_at (j := j) (by simpa using hx)) rfl rfl rfl ?_
    repeat (first | refine aops_end ?_ | refine aops_p tok rfl rfl rfl rfl ?_ | refine aops_ld tok 0 rfl rfl rfl rfl rfl rfl rfl rfl ?_ | refine acode_seq ?_ | refine acode_region ?_)
    have hand : ∀ y : Int, IntKind.i64.wrap ((BitVec.ofInt IntKind.i64.bits y &&& BitVec.ofInt IntKind.i64.bits 511).toNat : Int) = andV y := fun y => rfl
    rw [hand x]
    generalize hdx : andV x = dx at *
    refine aops_litn tok rfl rfl rfl rfl rfl rfl rfl ?_
    repeat (refine aops_p tok rfl rfl rfl rfl ?_)
    refine aops_litn tok rfl rfl rfl rfl rfl rfl rfl ?_
    refine aops_append tok 1 (m := 1) (ds := ruC (ruV dx)) rfl rfl rfl (.inl rfl) rfl rfl (by rw [List.length_append, encs_len (e := ruC) (s := 3) (fun _ => rfl), List.length_map, List.length_take, Nat.min_eq_left (by omega)]; show 3 + j * 3 = (j + 1) * 3; omega) rfl rfl rfl (by show _ * 40 ≤ _; omega) (by omega) rfl rfl fun ob' cap' => ?_
    refine aops_put rfl ?_
    refine aops_somed 75 rfl (by omega) fun c hc => ?_
    subst hc
    repeat (first | refine aops_end ?_ | refine aops_p tok rfl rfl rfl rfl ?_ | refine aops_stn tok rfl rfl rfl rfl rfl rfl rfl rfl rfl ?_ | refine acode_seq ?_ | refine acode_region ?_)
    refine aops_ix tok [A.int .i64 z] rfl rfl rfl rfl (by omega) (by omega) (by simp) (ints_at (j := bb) (by simpa using hz)) rfl rfl rfl ?_
    repeat (first | refine aops_end ?_ | refine aops_p tok rfl rfl rfl rfl ?_)
    have hfin : ∀ q : Nat, q = bstV ds (j + 1) → ∀ E : Env, subE [(0, .psl dl.length (ints dl)), (1, .int .i64 i), (6, .ref gb 0), (8, .int .i64 q), (9, .int .i64 (j + 1 : Nat))] E → subE [(0, .psl dl.length (ints dl)), (1, .int .i64 i), (6, .ref gb 0), (8, .int .i64 (bstV ds (j + 1))), (9, .int .i64 (j + 1 : Nat))] E := fun q hq E h => hq ▸ h
    refine acode_id rfl (fun e2 => ?_) (fun e2 => ?_)
    · rw [hand z] at e2
      rw [if_pos e2] at hbs
      repeat (first | refine aops_end ?_ | refine aops_endb ?_ | refine aops_a tok rfl (by omega) (by omega) rfl rfl rfl ?_ | refine aops_p tok rfl rfl rfl rfl ?_ | refine acode_region ?_ | refine then_n ?_)
      refine ⟨(j + 1, c, cap'), by simp only; omega, by simp only; omega, hfin j hbs.symm _ ⟨rfl, rfl, rfl, rfl, rfl, trivial⟩, ?_⟩
      simp only [htk, List.map_append, encs_app, List.append_assoc]
      rfl
    · rw [hand z] at e2
      rw [if_neg e2] at hbs
      repeat (first | refine aops_end ?_ | refine aops_a tok rfl (by omega) (by omega) rfl rfl rfl ?_ | refine aops_p tok rfl rfl rfl rfl ?_ | refine acode_region ?_ | refine acode_skip ?_ | refine then_n ?_ | refine block_n ?_)
      refine ⟨(j + 1, c, cap'), by simp only; omega, by simp only; omega, hfin bb hbs.symm _ ⟨rfl, rfl, rfl, rfl, rfl, trivial⟩, ?_⟩
      simp only [htk, List.map_append, encs_app, List.append_assoc]
      rfl
  obtain rfl : j = dl.length := by omega
  rw [show ds.take dl.length = ds from List.take_of_length_le (by omega)]
  refine acode_exit ?_
  repeat (first | refine exit_then ?_ | refine exit_here ?_ | refine then_n ?_)
  have hgl : (gV i ds).rules.length = dl.length + 1 := by simp [gV, hdl]
  have hgc : encs ruC (gV i ds).rules = [A.int .i64 0, A.psl i (ints (List.replicate i 1)), A.int .i64 0] ++ encs ruC (ds.map ruV) := by
    show ruC ⟨0, List.replicate i 1, 0⟩ ++ encs ruC (ds.map ruV) = _
    unfold ruC
    simp only [List.length_replicate]
  have hvw : ∀ M, Vw M (.agg [.int .i64 2, .int .i64 1, .int .i64 0, .psl (dl.length + 1) ([.int .i64 0, .psl i (ints (List.replicate i 1)), .int .i64 0] ++ encs ruC (ds.map ruV)), .nils, .nils, .nils]) (grA (gV i ds)) := fun M => by
    unfold grA grC
    rw [hgl, hgc]
    exact .agg (.cons (.refl _) (.cons (.refl _) (.cons (.refl _) (.cons (.refl _) (.cons .nils (.cons .nils (.cons .nils .nil)))))))
  refine acode_pubFld (sz := 3) 3 rfl rfl (by rw [← hgc, encs_len (e := ruC) (s := 3) (fun _ => rfl), hgl]) (by decide) rfl ?_
  refine acode_pubref0 6 rfl ?_
  have hlen := bstV_lt (ds := ds) (by omega)
  generalize hgcells : ([A.int .i64 0, A.psl i (ints (List.replicate i 1)), A.int .i64 0] ++ encs ruC (ds.map ruV)) = gcs at *
  have hB : ∀ M, ACalls Try.prog 12 [.agg [.int .i64 2, .int .i64 1, .int .i64 0, .psl (dl.length + 1) gcs, .nils, .nils, .nils], .psl i (ints (List.replicate i 0)), .int .i64 5000] M (fun x M' => x = .tup [foA (fV i ds.length), .int .i64 i, .int .i64 0] ∧ M' = M) := fun M => by
    have hbc := build_calls (g := gV i ds) (ks := List.replicate i 0) (N := 2) (n := i) (lim := 5000) H.gok H.chk rfl (by simp) (by omega) (by omega) M
    rw [List.length_replicate] at hbc
    refine (acalls_arg (.cons (hvw _) (.cons (.refl _) (.cons (.refl _) .nil))) hbc).mono ?_
    rintro x M' ⟨⟨a, e, _, h1, rfl⟩ | ⟨f', h1, _, _, rfl⟩, rfl⟩
    · rw [H.bld] at h1; cases h1
    · rw [H.bld] at h1; cases h1
      rw [List.length_replicate]
      exact ⟨rfl, rfl⟩
  have hC : ∀ M, ACalls Try.prog 18 [.agg [.int .i64 2, .int .i64 1, .int .i64 0, .psl (dl.length + 1) gcs, .nils, .nils, .nils], foA (fV i ds.length)] M (fun x M' => x = .tup [trA (treeV i (bstV ds ds.length)), .int .i64 0] ∧ M' = M) := fun M => by
    have h := chbest_calls (g := gV i ds) (f := fV i ds.length) H.gok (by rw [H.frm]) H.ok H.form H.whole H.small H.dist M
    rw [H.best] at h
    exact acalls_arg (.cons (hvw _) (.cons (.refl _) .nil)) h
  have hW : ∀ M, ACalls Try.prog 25 [.agg [.int .i64 2, .int .i64 1, .int .i64 0, .psl (dl.length + 1) gcs, .nils, .nils, .nils], trA (treeV i (bstV ds ds.length))] M (fun x M' => x = .int .i64 (i * ds.getD (bstV ds ds.length) 0) ∧ M' = M) := fun M => by
    have h := chweight_calls (g := gV i ds) (t := treeV i (bstV ds ds.length)) (fun r => by have := H.dyn r; omega) (by have := H.size; omega) M
    rw [H.wt] at h
    exact acalls_arg (.cons (hvw _) (.cons (.refl _) .nil)) h
  clear H hvw
  obtain ⟨z, hz⟩ : ∃ z, dl[bstV ds ds.length]? = some z := ⟨dl[bstV ds ds.length]'(by omega), List.getElem?_eq_getElem _⟩
  obtain ⟨hz1, hz2⟩ := hdat hz
  obtain ⟨z0, z5⟩ := andV_rng z
  rw [hz2] at hW
  rw [show bstV ds dl.length = bstV ds ds.length by rw [hdl]]
  generalize hfo : fV i ds.length = fo at *
  unfold treeV at hC hW
  have hrow : ∀ {q : Nat}, q < i → ((List.range i).map (tV (bstV ds ds.length)))[q]? = some (tV (bstV ds ds.length) q) := fun {q} h => by rw [List.getElem?_map, List.getElem?_range h]; rfl
  generalize bstV ds ds.length = bb at *
  have htl : ((List.range i).map (tV bb)).length = i := by simp
  generalize (List.range i).map (tV bb) = ts at *
  rw [hdl] at hlen
  repeat (refine acode_seq ?_)
  refine acode_drawP [] 12 [0, 1, 2, 3, 4, 5, 6, 7, 8, 9, 10, 11] [8, 9] mixed (by kernel_rfl) (by kernel_rfl) rfl ?_
  repeat (refine seqO_p tok rfl rfl rfl rfl rfl ?_)
  refine seqO_mkf tok i rfl rfl rfl rfl rfl rfl rfl (by show _ * 8 ≤ _; omega) (by omega) rfl rfl rfl ?_
  rw [show zerosA (List.map ofZ [Value.int IntKind.i64 0]) i = ints (List.replicate i 0) from ints_zeros i]
  refine seqO_call _ rfl Try.func12 rfl rfl rfl rfl (fun M => hB M) rfl rfl rfl ?_
  repeat (refine seqO_p tok rfl rfl rfl rfl rfl ?_)
  refine seqO_alloc tok rfl rfl rfl (by simp) rfl rfl rfl rfl fun xb => ?_
  refine seqO_st tok 0 (foC fo) _ rfl rfl rfl rfl rfl rfl rfl (by show 0 + 2 ≤ 2; decide) rfl rfl (by simp) rfl rfl ?_
  repeat (refine seqO_p tok rfl rfl rfl rfl rfl ?_)
  refine SeqO.done ?_
  refine aops_pubref0 11 rfl ?_
  repeat (first | refine aops_end ?_ | refine aops_p tok rfl rfl rfl rfl ?_ | refine acode_seq ?_ | refine acode_region ?_)
  refine aops_callx Try.func18 rfl rfl rfl rfl (hC _) rfl rfl rfl ?_
  repeat (refine aops_p tok rfl rfl rfl rfl ?_)
  have htl2 : (Tr.mk 0 0 ts).kids.length = i := htl
  refine aops_alloc tok rfl rfl rfl rfl rfl rfl fun tb => ?_
  repeat (first | refine aops_p tok rfl rfl rfl rfl ?_ | refine aops_stn tok rfl rfl rfl rfl rfl rfl rfl rfl rfl ?_)
  refine aops_pubref0 14 rfl ?_
  repeat (first | refine aops_end ?_ | refine aops_p tok rfl rfl rfl rfl ?_ | refine acode_seq ?_ | refine acode_region ?_)
  refine aops_callx Try.func20 rfl rfl rfl rfl (num24_calls _) rfl rfl rfl ?_
  repeat' (first | refine aops_end ?_ | refine aops_o rfl rfl rfl ?_ | refine aops_pbt tok rfl (by first | omega | decide) rfl rfl rfl ?_ | refine aops_pbf tok rfl (by first | omega | decide) rfl rfl rfl ?_ | refine aops_pet tok rfl (by omega) rfl rfl rfl ?_ | (refine aops_pn tok rfl rfl rfl rfl ?_ ?_ <;> intro e_) | refine aops_p tok rfl rfl rfl rfl ?_ | refine acode_it rfl ?_ | refine acode_if rfl ?_ | refine acode_seq ?_ | refine acode_region ?_ | refine acode_block ?_ | refine acode_skip ?_ | refine then_n ?_)
  try any_goals (exfalso; omega)
  refine acode_loopS (ι := Nat) (fun q => [(0, .psl dl.length (ints dl)), (1, .int .i64 i), (6, .pp [.int .i64 2, .int .i64 1, .int .i64 0, .psl (dl.length + 1) gcs, .nils, .nils, .nils]), (8, .int .i64 bb), (14, .pp [.int .i64 0, .int .i64 0, .psl ts.length (encs trC ts)]), (16, .int .i64 q)]) (fun _ => []) (fun q => i - q) (fun q => q ≤ i) 0 (Nat.zero_le _) ⟨rfl, rfl, rfl, rfl, rfl, rfl, trivial⟩ rfl ?_
  rintro q hq
  repeat (first | refine aops_end ?_ | refine aops_p tok rfl rfl rfl rfl ?_ | refine acode_seq ?_ | refine acode_region ?_)
  refine acode_id rfl (fun e2 => ?_) (fun e2 => ?_)
  · have hr := hrow (q := q) (by omega)
    have hr2 := tr_at hr
    repeat (first | refine aops_p tok rfl rfl rfl rfl ?_ | refine acode_seq ?_ | refine acode_region ?_ | refine acode_block ?_ | refine acode_skip ?_ | refine then_n ?_)
    refine aops_ix tok (trC (tV bb q)) rfl rfl rfl rfl (by omega) (by omega) (by simp [trC_eq]) (by simpa using hr2) rfl rfl rfl ?_
    rw [trC_eq]
    show AOps Try.prog 138 _ _ _ _
    simp only [tV, Tr.rule, Tr.tok, Tr.kids]
    repeat' (first | refine aops_end ?_ | refine aops_a tok rfl (by omega) (by omega) rfl rfl rfl ?_ | (refine aops_pn tok rfl rfl rfl rfl ?_ ?_ <;> intro e_) | refine aops_p tok rfl rfl rfl rfl ?_ | refine acode_it rfl ?_ | refine acode_if rfl ?_ | refine acode_seq ?_ | refine acode_region ?_ | refine acode_skip ?_ | refine then_n ?_ | refine block_n ?_)
    try any_goals (exfalso; omega)
    exact ⟨q + 1, by omega, by omega, ⟨rfl, rfl, rfl, rfl, rfl, rfl, trivial⟩, rfl⟩
  obtain rfl : q = i := by omega
  refine acode_exit ?_
  repeat (first | refine exit_then ?_ | refine exit_here ?_ | refine then_n ?_)
  have hand : ∀ y : Int, IntKind.i64.wrap ((BitVec.ofInt IntKind.i64.bits y &&& BitVec.ofInt IntKind.i64.bits 511).toNat : Int) = andV y := fun y => rfl
  have hmul : 0 ≤ (q : Int) * andV z ∧ (q : Int) * andV z ≤ 100000 := by
    generalize andV z = y at *
    rcases (show q = 1 ∨ q = 2 ∨ q = 3 ∨ q = 4 ∨ q = 5 ∨ q = 6 by omega) with rfl | rfl | rfl | rfl | rfl | rfl <;> omega
  repeat (refine acode_seq ?_)
  refine acode_drawT 11 mixed (by kernel_rfl) (by kernel_rfl) ?_
  repeat (refine seqT_p tok rfl rfl rfl rfl ?_)
  refine seqT_call _ Try.func25 rfl rfl rfl rfl (hW _) rfl rfl rfl ?_
  repeat (refine seqT_p tok rfl rfl rfl rfl ?_)
  refine seqT_ix tok [A.int .i64 z] rfl rfl rfl rfl (by omega) (by omega) (by simp) (ints_at (j := bb) (by simpa using hz)) rfl rfl rfl ?_
  repeat (refine seqT_p tok rfl rfl rfl rfl ?_)
  refine SeqT.done ?_
  repeat (first | refine aops_end ?_ | refine aops_p tok rfl rfl rfl rfl ?_)
  refine acode_ret ?_
  skip
  refine ⟨.bool true, rfl, resOf_tmp ?_⟩
  have hand2 := hand z
  have hw := wrap64_small (n := (q : Int) * andV z) (by omega) (by omega)
  show A.bool ((q : Int) * andV z == IntKind.i64.wrap ((q : Int) * IntKind.i64.wrap ((BitVec.ofInt IntKind.i64.bits z &&& BitVec.ofInt IntKind.i64.bits 511).toNat : Int))) = A.bool true
  rw [hand2, hw]
  simp
theorem chooseHeavy_calls (zs : List A) (h : GoodL T [24, 3] zs) : ACalls Try.prog 8 zs [] (fun r _ => r = .bool true) := by
  obtain ⟨_, _, rfl, ⟨f1, g1⟩, _, _, rfl, ⟨f2, g2⟩, rfl⟩ := h
  obtain ⟨l, rfl, _⟩ := good_ints (k := .i64) rfl rfl g1
  obtain ⟨n, rfl, _⟩ := good_int (k := .i64) rfl g2
  exact heavy_main
end Go.Proofs.Ytbnhmioijeagiaa.Ab

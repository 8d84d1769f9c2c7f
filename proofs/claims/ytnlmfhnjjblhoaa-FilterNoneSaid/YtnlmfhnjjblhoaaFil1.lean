/- Chapter 23's set of what is forbidden: the walk. No condition. -/
import Derived.Test.YtnlmfhnjjblhoaaGra0
import Derived.Test.YtnlmfhnjjblhoaaAbW
set_option linter.unusedVariables false
set_option linter.unusedSimpArgs false
namespace Go.Proofs.Ytnlmfhnjjblhoaa.Ab
attribute [local irreducible] thenA inBlockA ACode AOps put IntKind.wrap

def l3 (f : Int × Int × Int) : List Int := [f.1, f.2.1, f.2.2]
theorem l3_inj {f f' : Int × Int × Int} (h : l3 f = l3 f') : f = f' := by
  obtain ⟨a, b, c⟩ := f; obtain ⟨a', b', c'⟩ := f'
  simp only [l3, List.cons.injEq, and_true] at h
  obtain ⟨rfl, rfl, rfl⟩ := h; rfl
/-- What is forbidden, as a map. -/
def SetOf (l : List (Int × Int × Int)) (ks : List (List Int)) : Prop := (∀ x ∈ ks, x.length = 3) ∧ ∀ f, l3 f ∈ ks ↔ f ∈ l
def setF (l : List (Int × Int × Int)) : List (List Int) := l.foldl (fun ks f => if l3 f ∈ ks then ks else ks ++ [l3 f]) []
theorem setF_add {l : List (Int × Int × Int)} {i : Nat} {f : Int × Int × Int} (h : l[i]? = some f) : setF (l.take (i + 1)) = if l3 f ∈ setF (l.take i) then setF (l.take i) else setF (l.take i) ++ [l3 f] := by
  unfold setF
  rw [List.take_add_one, h, List.foldl_append]; rfl
theorem setF_of (l : List (Int × Int × Int)) : SetOf l (setF l) := by
  suffices h : ∀ (l m : List (Int × Int × Int)) (ks : List (List Int)), SetOf m ks → SetOf (m ++ l) (l.foldl (fun ks f => if l3 f ∈ ks then ks else ks ++ [l3 f]) ks) by
    have := h l [] [] ⟨by simp, by simp⟩
    rw [List.nil_append] at this
    exact this
  intro l
  induction l with
  | nil => intro m ks h; rw [List.append_nil]; exact h
  | cons f l ih =>
    intro m ks h
    have := ih (m ++ [f]) (if l3 f ∈ ks then ks else ks ++ [l3 f]) ?_
    · rw [List.append_assoc] at this; exact this
    · split
      · rename_i hm
        refine ⟨h.1, fun f' => ?_⟩
        rw [h.2]
        simp only [List.mem_append, List.mem_singleton]
        exact ⟨.inl, fun h2 => h2.elim id fun e => by rw [e]; exact (h.2 f).1 hm⟩
      · refine ⟨fun x hx => ?_, fun f' => ?_⟩
        · rcases List.mem_append.1 hx with hx | hx
          · exact h.1 x hx
          · simp only [List.mem_singleton] at hx; subst hx; rfl
        · simp only [List.mem_append, List.mem_singleton, h.2]
          exact ⟨fun h2 => h2.imp id l3_inj, fun h2 => h2.imp id fun e => by rw [e]⟩
theorem f3_at {l : List (Int × Int × Int)} {i : Nat} {x : Int × Int × Int} (h : l[i]? = some x) : f3C x <+: (encs f3C l).drop (i * 3) := encs_at (e := f3C) (s := 3) (fun _ => rfl) h

set_option maxHeartbeats 1000000 in
theorem fset_calls {g : Gr} (hf : g.forbid.length ≤ 9223372036854775807) (M : List Ob) : ACalls Try.prog 52 [grA g] M (fun r M' => r = .mp (setF g.forbid) ∧ M' = M) := by
  refine acalls_of_code 18 Try.func52 rfl rfl rfl ?_
  refine acode_seq ?_
  refine acode_region ?_
  refine aops_boxf rfl rfl rfl rfl rfl rfl rfl ?_
  repeat (first | refine aops_put rfl ?_ | refine aops_o rfl rfl rfl ?_ | refine aops_max tok rfl rfl rfl rfl rfl rfl ?_ | refine aops_min tok rfl rfl rfl rfl rfl rfl ?_ | refine aops_a tok rfl (by omega) (by omega) rfl rfl rfl ?_ | refine aops_p tok rfl rfl rfl rfl ?_ | refine aops_ixa tok rfl rfl rfl (by decide) rfl rfl rfl rfl ?_ | refine aops_ld tok 0 rfl rfl rfl rfl rfl rfl rfl rfl ?_ | refine aops_ld tok 1 rfl rfl rfl rfl rfl rfl rfl rfl ?_ | refine aops_stn tok rfl rfl rfl rfl rfl rfl rfl rfl rfl ?_ | refine aops_stn1 tok rfl rfl rfl rfl rfl rfl rfl rfl rfl ?_)
  refine aops_end ?_
  refine acode_of_g (gcode_seq (gcode_region (gops_make rfl rfl rfl rfl fun b => ?_)))
  refine hops_a ?_
  repeat (first | refine aops_put rfl ?_ | refine aops_o rfl rfl rfl ?_ | refine aops_max tok rfl rfl rfl rfl rfl rfl ?_ | refine aops_min tok rfl rfl rfl rfl rfl rfl ?_ | refine aops_a tok rfl (by omega) (by omega) rfl rfl rfl ?_ | refine aops_p tok rfl rfl rfl rfl ?_ | refine aops_ixa tok rfl rfl rfl (by decide) rfl rfl rfl rfl ?_ | refine aops_ld tok 0 rfl rfl rfl rfl rfl rfl rfl rfl ?_ | refine aops_ld tok 1 rfl rfl rfl rfl rfl rfl rfl rfl ?_ | refine aops_stn tok rfl rfl rfl rfl rfl rfl rfl rfl rfl ?_ | refine aops_stn1 tok rfl rfl rfl rfl rfl rfl rfl rfl rfl ?_)
  refine aops_nil ⟨rfl, ?_⟩
  refine hops_end ?_
  refine hcode_seq (hcode_seq ?_)
  refine hcode_a ?_
  refine acode_region ?_
  repeat (first | refine aops_put rfl ?_ | refine aops_o rfl rfl rfl ?_ | refine aops_max tok rfl rfl rfl rfl rfl rfl ?_ | refine aops_min tok rfl rfl rfl rfl rfl rfl ?_ | refine aops_a tok rfl (by omega) (by omega) rfl rfl rfl ?_ | refine aops_p tok rfl rfl rfl rfl ?_ | refine aops_ixa tok rfl rfl rfl (by decide) rfl rfl rfl rfl ?_ | refine aops_ld tok 0 rfl rfl rfl rfl rfl rfl rfl rfl ?_ | refine aops_ld tok 1 rfl rfl rfl rfl rfl rfl rfl rfl ?_ | refine aops_stn tok rfl rfl rfl rfl rfl rfl rfl rfl rfl ?_ | refine aops_stn1 tok rfl rfl rfl rfl rfl rfl rfl rfl rfl ?_)
  refine aops_nil ⟨rfl, ?_⟩
  refine hcode_block ?_
  refine hcode_loop (ι := Nat × Array MapEntry × Nat) (fun p => [(3, .mr b), (8, .psl g.forbid.length (encs f3C g.forbid)), (9, .int .i64 g.forbid.length), (10, .int .i64 p.1)]) (fun _ => M) (fun p => (p.2.1, p.2.2)) (fun p => g.forbid.length - p.1)
    (fun p => p.1 ≤ g.forbid.length ∧ mapView p.2.1.toList = some (setF (g.forbid.take p.1))) (0, #[], 0) ⟨Nat.zero_le _, rfl⟩ ⟨rfl, rfl, rfl, rfl, trivial⟩ rfl rfl ?_
  rintro ⟨i, es, cl⟩ ⟨hi, hv⟩
  simp only at hi hv ⊢
  refine hcode_seq ?_
  refine hcode_a ?_
  refine acode_region ?_
  repeat (first | refine aops_put rfl ?_ | refine aops_o rfl rfl rfl ?_ | refine aops_max tok rfl rfl rfl rfl rfl rfl ?_ | refine aops_min tok rfl rfl rfl rfl rfl rfl ?_ | refine aops_a tok rfl (by omega) (by omega) rfl rfl rfl ?_ | refine aops_p tok rfl rfl rfl rfl ?_ | refine aops_ixa tok rfl rfl rfl (by decide) rfl rfl rfl rfl ?_ | refine aops_ld tok 0 rfl rfl rfl rfl rfl rfl rfl rfl ?_ | refine aops_ld tok 1 rfl rfl rfl rfl rfl rfl rfl rfl ?_ | refine aops_stn tok rfl rfl rfl rfl rfl rfl rfl rfl rfl ?_ | refine aops_stn1 tok rfl rfl rfl rfl rfl rfl rfl rfl rfl ?_)
  refine aops_nil ⟨rfl, ?_⟩
  refine hcode_seq (hcode_cond rfl (fun e => ?_) (fun e => ?_))
  · have hlt : i < g.forbid.length := by omega
    obtain ⟨f, hff⟩ : ∃ f, g.forbid[i]? = some f := ⟨g.forbid[i], List.getElem?_eq_getElem hlt⟩
    refine hcode_skip (hcode_seq (hcode_block (hcode_seq ?_)))
    refine hcode_a ?_
    refine acode_region ?_
    refine aops_ix tok (f3C f) rfl rfl rfl rfl (by omega) (by omega) (by simp [f3C]) (f3_at hff) rfl rfl rfl ?_
    repeat (first | refine aops_put rfl ?_ | refine aops_o rfl rfl rfl ?_ | refine aops_max tok rfl rfl rfl rfl rfl rfl ?_ | refine aops_min tok rfl rfl rfl rfl rfl rfl ?_ | refine aops_a tok rfl (by omega) (by omega) rfl rfl rfl ?_ | refine aops_p tok rfl rfl rfl rfl ?_ | refine aops_ixa tok rfl rfl rfl (by decide) rfl rfl rfl rfl ?_ | refine aops_ld tok 0 rfl rfl rfl rfl rfl rfl rfl rfl ?_ | refine aops_ld tok 1 rfl rfl rfl rfl rfl rfl rfl rfl ?_ | refine aops_stn tok rfl rfl rfl rfl rfl rfl rfl rfl rfl ?_ | refine aops_stn1 tok rfl rfl rfl rfl rfl rfl rfl rfl rfl ?_)
    refine aops_alloc tok rfl rfl rfl rfl rfl rfl fun bf => ?_
    refine aops_stn tok rfl rfl rfl rfl rfl rfl rfl rfl rfl ?_
    refine aops_pubref0 5 rfl ?_
    refine aops_nil ⟨rfl, ?_⟩
    refine hcode_region ?_
    refine hops_a ?_
    repeat (first | refine aops_put rfl ?_ | refine aops_o rfl rfl rfl ?_ | refine aops_max tok rfl rfl rfl rfl rfl rfl ?_ | refine aops_min tok rfl rfl rfl rfl rfl rfl ?_ | refine aops_a tok rfl (by omega) (by omega) rfl rfl rfl ?_ | refine aops_p tok rfl rfl rfl rfl ?_ | refine aops_ixa tok rfl rfl rfl (by decide) rfl rfl rfl rfl ?_ | refine aops_ld tok 0 rfl rfl rfl rfl rfl rfl rfl rfl ?_ | refine aops_ld tok 1 rfl rfl rfl rfl rfl rfl rfl rfl ?_ | refine aops_stn tok rfl rfl rfl rfl rfl rfl rfl rfl rfl ?_ | refine aops_stn1 tok rfl rfl rfl rfl rfl rfl rfl rfl rfl ?_)
    refine aops_nil ⟨rfl, ?_⟩
    refine hops_a ?_
    repeat (first | refine aops_put rfl ?_ | refine aops_o rfl rfl rfl ?_ | refine aops_max tok rfl rfl rfl rfl rfl rfl ?_ | refine aops_min tok rfl rfl rfl rfl rfl rfl ?_ | refine aops_a tok rfl (by omega) (by omega) rfl rfl rfl ?_ | refine aops_p tok rfl rfl rfl rfl ?_ | refine aops_ixa tok rfl rfl rfl (by decide) rfl rfl rfl rfl ?_ | refine aops_ld tok 0 rfl rfl rfl rfl rfl rfl rfl rfl ?_ | refine aops_ld tok 1 rfl rfl rfl rfl rfl rfl rfl rfl ?_ | refine aops_stn tok rfl rfl rfl rfl rfl rfl rfl rfl rfl ?_ | refine aops_stn1 tok rfl rfl rfl rfl rfl rfl rfl rfl rfl ?_)
    refine aops_nil ⟨rfl, ?_⟩
    refine hops_upd tok (k := l3 f) rfl rfl rfl rfl rfl hv (setF_of _).1 rfl rfl rfl fun es' cl' h1 => ?_
    refine hops_endb (hcode_region ?_)
    refine hops_a ?_
    repeat (first | refine aops_put rfl ?_ | refine aops_o rfl rfl rfl ?_ | refine aops_max tok rfl rfl rfl rfl rfl rfl ?_ | refine aops_min tok rfl rfl rfl rfl rfl rfl ?_ | refine aops_a tok rfl (by omega) (by omega) rfl rfl rfl ?_ | refine aops_p tok rfl rfl rfl rfl ?_ | refine aops_ixa tok rfl rfl rfl (by decide) rfl rfl rfl rfl ?_ | refine aops_ld tok 0 rfl rfl rfl rfl rfl rfl rfl rfl ?_ | refine aops_ld tok 1 rfl rfl rfl rfl rfl rfl rfl rfl ?_ | refine aops_stn tok rfl rfl rfl rfl rfl rfl rfl rfl rfl ?_ | refine aops_stn1 tok rfl rfl rfl rfl rfl rfl rfl rfl rfl ?_)
    refine aops_nil ⟨rfl, ?_⟩
    refine hops_a ?_
    repeat (first | refine aops_put rfl ?_ | refine aops_o rfl rfl rfl ?_ | refine aops_max tok rfl rfl rfl rfl rfl rfl ?_ | refine aops_min tok rfl rfl rfl rfl rfl rfl ?_ | refine aops_a tok rfl (by omega) (by omega) rfl rfl rfl ?_ | refine aops_p tok rfl rfl rfl rfl ?_ | refine aops_ixa tok rfl rfl rfl (by decide) rfl rfl rfl rfl ?_ | refine aops_ld tok 0 rfl rfl rfl rfl rfl rfl rfl rfl ?_ | refine aops_ld tok 1 rfl rfl rfl rfl rfl rfl rfl rfl ?_ | refine aops_stn tok rfl rfl rfl rfl rfl rfl rfl rfl rfl ?_ | refine aops_stn1 tok rfl rfl rfl rfl rfl rfl rfl rfl rfl ?_)
    refine aops_nil ⟨rfl, ?_⟩
    refine hops_fin fun K G a w hi' => ⟨(i + 1, es', cl'), G, _, ⟨by simp; omega, by rw [h1, setF_add hff]⟩, by simp; omega, ⟨rfl, rfl, rfl, rfl, trivial⟩, hi'⟩
  · have hge : i = g.forbid.length := by omega
    subst hge
    rw [List.take_length] at hv
    refine hcode_exit_on ?_
    refine hcode_freeze (t := 3) hv rfl ?_
    refine gcode_of_a ?_
    repeat (first | refine aops_put rfl ?_ | refine aops_end ?_ | refine aops_endb ?_ | refine aops_o rfl rfl rfl ?_ | refine aops_max tok rfl rfl rfl rfl rfl rfl ?_ | refine aops_min tok rfl rfl rfl rfl rfl rfl ?_ | refine aops_a tok rfl (by omega) (by omega) rfl rfl rfl ?_ | refine aops_p tok rfl rfl rfl rfl ?_ | refine aops_ixa tok rfl rfl rfl (by decide) rfl rfl rfl rfl ?_ | refine aops_ld tok 0 rfl rfl rfl rfl rfl rfl rfl rfl ?_ | refine aops_ld tok 1 rfl rfl rfl rfl rfl rfl rfl rfl ?_ | refine aops_stn tok rfl rfl rfl rfl rfl rfl rfl rfl rfl ?_ | refine aops_stn1 tok rfl rfl rfl rfl rfl rfl rfl rfl rfl ?_ | refine acode_seq ?_ | refine acode_region ?_ | refine acode_block ?_ | refine acode_skip ?_ | refine then_n ?_ | refine block_n ?_)
    refine acode_ret ?_
    repeat (first | refine exit_then ?_ | refine exit_here ?_ | refine exit_out rfl ?_ | refine ret_then ?_ | refine ret_block ?_ | refine then_n ?_ | refine block_n ?_)
    exact ⟨_, ⟨rfl, rfl⟩, resOf_tmp rfl⟩
end Go.Proofs.Ytnlmfhnjjblhoaa.Ab

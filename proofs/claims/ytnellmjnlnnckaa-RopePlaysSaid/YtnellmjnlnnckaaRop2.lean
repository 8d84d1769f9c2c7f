/- Chapter 2's ropes: trees of bytes; a leaf, a node of two, a rope of bytes: the walk. No condition. -/
import Derived.Test.YtnellmjnlnnckaaRop1
set_option linter.unusedVariables false
set_option linter.unusedSimpArgs false
namespace Go.Proofs.Ytnellmjnlnnckaa.Ab
section
variable {P : Program} {N : Nat} {ops : Array Oper} {o : Oper} {Q : Exit → St → Prop} {E F : Env} {M : List Ob}
def intZ (z : List Nat) : Int := if z.headD 0 = 0 then (z.getD 1 0 : Nat) else -((z.getD 1 0 : Nat) : Int)
theorem intZ_all (c : Int) : ∃ z, intZ z = c := by
  by_cases h : 0 ≤ c
  · exact ⟨[0, c.toNat], by simp [intZ]; omega⟩
  · exact ⟨[1, (-c).toNat], by simp [intZ]; omega⟩
/-- A counter. -/
def cnt (mb : Nat) (c : Int) : Ob := ⟨some mb, 1, [.int .i64 c]⟩
/-- A call that counts on, in a drawn region. -/
theorem seqO_cnt {mb : Nat} {c : Int} {i : Nat} {al : List Nat} {ll : List Oper} {n d : Nat} {g : Operand} {args : Array Operand} {tys : Array TypeId} {f : FuncId} {cap xs : List A} {fn : Func} {x : A} (hi : al.contains i = true) (hf : P.funcs[f]? = some fn) (ho : o.op = .call { callee := .value g, args, argTypes := tys }) (hgv : opA F g = .fn f cap)
    (hfn : callable fn = true) (has : args.toList.map (opA F) ++ cap = xs) (hc : ACalls P f xs (cnt mb c :: M) (fun r M' => ∃ c', r = x ∧ M' = cnt mb c' :: M)) (hg : guardOn ops o F = some true) (hd : o.dst = some d) (hN : Nat.blt d N = true)
    (next : ∀ c', SeqO P N ops Q [] al (i + 1) ((d, x) :: F) (cnt mb c' :: M) n ll) : SeqO P N ops Q [] al i F (cnt mb c :: M) (n + 1) (o :: ll) := by
  refine SeqO.make (x := fun _ => x) (M2 := fun z => cnt mb (intZ z) :: M) hi (fun E hE rest Q next => ?_) (fun z o ho => by simp at ho) fun b => ?_
  · refine aops_call hf ho ((agree_op hE (by rw [ho]; simp [Op.operands, Call.operands])).trans hgv) hfn (by rw [map_congr_ops (E := E) (F := F) (fun y hy => agree_op hE (by rw [ho]; simp [Op.operands, Call.operands, hy]))]; exact has) hc ((agree_guard hE).trans hg) (by rw [hd]; exact hN) ?_
    rintro y M' ⟨c', rfl, rfl⟩
    obtain ⟨z, rfl⟩ := intZ_all c'
    exact next z
  · rw [hd]; exact next _
end
attribute [local irreducible] thenA inBlockA ACode AOps put IntKind.wrap

/-! ### trees of bytes -/
inductive RT where
  | lf (b : List Int)
  | nd (l r : RT)
def RT.txt : RT → List Int
  | .lf b => b
  | .nd l r => l.txt ++ r.txt
def lns (b : List Int) : Nat := b.count 10
def RT.sz (t : RT) : Nat := t.txt.length
def RT.ln : RT → Nat
  | .lf b => lns b
  | .nd l r => l.ln + r.ln
def RT.ht : RT → Nat
  | .lf _ => 1
  | .nd l r => 1 + max l.ht r.ht
theorem RT.ln_eq : ∀ t : RT, t.ln = lns t.txt
  | .lf b => rfl
  | .nd l r => by rw [RT.ln, RT.ln_eq l, RT.ln_eq r, RT.txt]; simp [lns]
def ropeC (mb : Nat) : RT → List A
  | .lf b => [.psl b.length (u8s b), .nilp, .nilp, .int .i64 b.length, .int .i64 (lns b), .int .i64 1, .ref mb 0]
  | .nd l r => [.nils, .pp (ropeC mb l), .pp (ropeC mb r), .int .i64 ((RT.nd l r).sz : Nat), .int .i64 ((RT.nd l r).ln : Nat), .int .i64 ((RT.nd l r).ht : Nat), .ref mb 0]
def ropeA (mb : Nat) (t : RT) : A := .pp (ropeC mb t)
/-- The cells that tell of the tree itself. -/
theorem ropeC_eq (mb : Nat) (t : RT) : ∃ x y z, ropeC mb t = [x, y, z, .int .i64 (t.sz : Nat), .int .i64 (t.ln : Nat), .int .i64 (t.ht : Nat), .ref mb 0] := by
  cases t with
  | lf b => exact ⟨_, _, _, rfl⟩
  | nd l r => exact ⟨_, _, _, rfl⟩
def bytesB (b : List Int) : Prop := ∀ x ∈ b, 0 ≤ x ∧ x ≤ 255
theorem count_bytes {b : List Int} (h : bytesB b) : Lib.countByte (Lib.bytesOf b) (10 : Int).toNat.toUInt8 = lns b := by
  induction b with
  | nil => rfl
  | cons x b ih =>
    have hx := h x (by simp)
    have ih := ih fun y hy => h y (by simp [hy])
    unfold Lib.countByte Lib.bytesOf lns at *
    rw [List.map_cons, List.count_cons, List.count_cons, ih]
    congr 1
    have e : (UInt8.ofNat x.toNat == (10 : Int).toNat.toUInt8) = (x == 10) := by
      obtain ⟨n, rfl⟩ := Int.eq_ofNat_of_zero_le hx.1
      have hn : n < 256 := by omega
      apply Bool.eq_iff_iff.2
      simp only [beq_iff_eq]
      constructor
      · intro h1
        have := congrArg UInt8.toNat h1
        simp [UInt8.toNat_ofNat] at this
        omega
      · intro h1
        have : n = 10 := by omega
        subst this; rfl
    rw [e]
theorem bytesB_take {b : List Int} (h : bytesB b) (n : Nat) : bytesB (b.take n) := fun x hx => h x (List.mem_of_mem_take hx)
theorem bytesB_drop {b : List Int} (h : bytesB b) (n : Nat) : bytesB (b.drop n) := fun x hx => h x (List.mem_of_mem_drop hx)
theorem bytesB_app {a b : List Int} : bytesB (a ++ b) ↔ bytesB a ∧ bytesB b := by
  unfold bytesB
  constructor
  · exact fun h => ⟨fun x hx => h x (by simp [hx]), fun x hx => h x (by simp [hx])⟩
  · rintro ⟨h1, h2⟩ x hx
    rcases List.mem_append.1 hx with h | h
    · exact h1 x h
    · exact h2 x h

/-! ### leaf, inner -/
theorem add64_calls {mb : Nat} {c z : Int} (M : List Ob) : ACalls Try.prog 81 [.ref mb 0, .int .i64 z] (cnt mb c :: M) (fun r M' => ∃ c', r = .int .i64 c' ∧ M' = cnt mb c' :: M) := by
  refine acalls_of_code 10 Try.func81 rfl rfl rfl ?_
  repeat (first | refine aops_put rfl ?_ | refine aops_end ?_ | refine aops_endb ?_ | refine aops_o rfl rfl rfl ?_ | refine aops_max tok rfl rfl rfl rfl rfl rfl ?_ | refine aops_min tok rfl rfl rfl rfl rfl rfl ?_ | refine aops_a tok rfl (by omega) (by omega) rfl rfl rfl ?_ | refine aops_p tok rfl rfl rfl rfl ?_ | refine aops_ixa tok rfl rfl rfl (by decide) rfl rfl rfl rfl ?_ | refine aops_ld tok 0 rfl rfl rfl rfl rfl rfl rfl rfl ?_ | refine aops_ld tok 1 rfl rfl rfl rfl rfl rfl rfl rfl ?_ | refine aops_stn tok rfl rfl rfl rfl rfl rfl rfl rfl rfl ?_ | refine aops_stn1 tok rfl rfl rfl rfl rfl rfl rfl rfl rfl ?_ | refine acode_seq ?_ | refine acode_region ?_ | refine acode_block ?_ | refine acode_skip ?_ | refine then_n ?_ | refine block_n ?_)
  refine aops_add64 0 Try.func87 rfl rfl (by kernel_rfl) (by kernel_rfl) (by kernel_rfl) (by kernel_rfl) rfl rfl rfl rfl rfl rfl rfl ?_
  repeat (first | refine aops_put rfl ?_ | refine aops_end ?_ | refine aops_endb ?_ | refine aops_o rfl rfl rfl ?_ | refine aops_max tok rfl rfl rfl rfl rfl rfl ?_ | refine aops_min tok rfl rfl rfl rfl rfl rfl ?_ | refine aops_a tok rfl (by omega) (by omega) rfl rfl rfl ?_ | refine aops_p tok rfl rfl rfl rfl ?_ | refine aops_ixa tok rfl rfl rfl (by decide) rfl rfl rfl rfl ?_ | refine aops_ld tok 0 rfl rfl rfl rfl rfl rfl rfl rfl ?_ | refine aops_ld tok 1 rfl rfl rfl rfl rfl rfl rfl rfl ?_ | refine aops_stn tok rfl rfl rfl rfl rfl rfl rfl rfl rfl ?_ | refine aops_stn1 tok rfl rfl rfl rfl rfl rfl rfl rfl rfl ?_ | refine acode_seq ?_ | refine acode_region ?_ | refine acode_block ?_ | refine acode_skip ?_ | refine then_n ?_ | refine block_n ?_)
  refine acode_ret ?_
  repeat (first | refine exit_then ?_ | refine exit_here ?_ | refine exit_out rfl ?_ | refine ret_then ?_ | refine ret_block ?_ | refine then_n ?_ | refine block_n ?_)
  exact ⟨_, ⟨_, rfl, rfl⟩, resOf_tmp rfl⟩
theorem count_calls {b : List Int} (hb : bytesB b) (M : List Ob) : ACalls Try.prog 82 [.psl b.length (u8s b), .psl 1 [.int .u8 10]] M (fun r M' => r = .int .i64 (lns b) ∧ M' = M) := by
  refine acalls_of_code 35 Try.func82 rfl rfl rfl ?_
  repeat' (first | refine aops_put rfl ?_ | refine aops_end ?_ | refine aops_endb ?_ | refine aops_o rfl rfl rfl ?_ | refine aops_max tok rfl rfl rfl rfl rfl rfl ?_ | refine aops_min tok rfl rfl rfl rfl rfl rfl ?_ | refine aops_a tok rfl (by omega) (by omega) rfl rfl rfl ?_ | refine aops_pbt tok rfl (by first | omega | decide) rfl rfl rfl ?_ | refine aops_pbf tok rfl (by first | omega | decide) rfl rfl rfl ?_ | refine aops_pet tok rfl (by omega) rfl rfl rfl ?_ | refine aops_pef tok rfl (by omega) rfl rfl rfl ?_ | (refine aops_pd tok rfl rfl rfl rfl ?_ ?_ <;> intro e_) | (refine aops_pe tok rfl rfl rfl rfl ?_ ?_ <;> intro e_) | (refine aops_pn tok rfl rfl rfl rfl ?_ ?_ <;> intro e_) | refine aops_p tok rfl rfl rfl rfl ?_ | refine acode_it rfl ?_ | refine acode_if rfl ?_ | refine aops_ixa tok rfl rfl rfl (by decide) rfl rfl rfl rfl ?_ | refine aops_ld tok 0 rfl rfl rfl rfl rfl rfl rfl rfl ?_ | refine aops_ld tok 1 rfl rfl rfl rfl rfl rfl rfl rfl ?_ | refine aops_stn tok rfl rfl rfl rfl rfl rfl rfl rfl rfl ?_ | refine aops_stn1 tok rfl rfl rfl rfl rfl rfl rfl rfl rfl ?_ | refine acode_seq ?_ | refine acode_region ?_ | refine acode_block ?_ | refine acode_skip ?_ | refine then_n ?_ | refine block_n ?_)
  all_goals try (exfalso; omega)
  refine aops_ix tok [A.int .u8 10] rfl rfl rfl rfl (by omega) (by omega) (by simp) ⟨[], rfl⟩ rfl rfl rfl ?_
  repeat (first | refine aops_put rfl ?_ | refine aops_end ?_ | refine aops_endb ?_ | refine aops_o rfl rfl rfl ?_ | refine aops_max tok rfl rfl rfl rfl rfl rfl ?_ | refine aops_min tok rfl rfl rfl rfl rfl rfl ?_ | refine aops_a tok rfl (by omega) (by omega) rfl rfl rfl ?_ | refine aops_p tok rfl rfl rfl rfl ?_ | refine aops_ixa tok rfl rfl rfl (by decide) rfl rfl rfl rfl ?_ | refine aops_ld tok 0 rfl rfl rfl rfl rfl rfl rfl rfl ?_ | refine aops_ld tok 1 rfl rfl rfl rfl rfl rfl rfl rfl ?_ | refine aops_stn tok rfl rfl rfl rfl rfl rfl rfl rfl rfl ?_ | refine aops_stn1 tok rfl rfl rfl rfl rfl rfl rfl rfl rfl ?_ | refine acode_seq ?_ | refine acode_region ?_ | refine acode_block ?_ | refine acode_skip ?_ | refine then_n ?_ | refine block_n ?_)
  refine aops_count tok Try.func89 rfl rfl (by kernel_rfl) (by kernel_rfl) (by kernel_rfl) (by kernel_rfl) rfl rfl rfl rfl rfl rfl ?_
  rw [count_bytes hb]
  repeat (first | refine aops_put rfl ?_ | refine aops_end ?_ | refine aops_endb ?_ | refine aops_o rfl rfl rfl ?_ | refine aops_max tok rfl rfl rfl rfl rfl rfl ?_ | refine aops_min tok rfl rfl rfl rfl rfl rfl ?_ | refine aops_a tok rfl (by omega) (by omega) rfl rfl rfl ?_ | refine aops_p tok rfl rfl rfl rfl ?_ | refine aops_ixa tok rfl rfl rfl (by decide) rfl rfl rfl rfl ?_ | refine aops_ld tok 0 rfl rfl rfl rfl rfl rfl rfl rfl ?_ | refine aops_ld tok 1 rfl rfl rfl rfl rfl rfl rfl rfl ?_ | refine aops_stn tok rfl rfl rfl rfl rfl rfl rfl rfl rfl ?_ | refine aops_stn1 tok rfl rfl rfl rfl rfl rfl rfl rfl rfl ?_ | refine acode_seq ?_ | refine acode_region ?_ | refine acode_block ?_ | refine acode_skip ?_ | refine then_n ?_ | refine block_n ?_)
  refine acode_ret ?_
  repeat (first | refine exit_then ?_ | refine exit_here ?_ | refine exit_out rfl ?_ | refine ret_then ?_ | refine ret_block ?_ | refine then_n ?_ | refine block_n ?_)
  exact ⟨_, ⟨rfl, rfl⟩, resOf_tmp rfl⟩
theorem leaf_calls {b : List Int} {mb : Nat} {c : Int} (hb : bytesB b) (hl : b.length ≤ 1000000) (M : List Ob) : ACalls Try.prog 71 [.psl b.length (u8s b), .ref mb 0] (cnt mb c :: M) (fun r M' => ∃ c', r = ropeA mb (.lf b) ∧ M' = cnt mb c' :: M) := by
  refine acalls_of_code 19 Try.func71 rfl rfl rfl ?_
  repeat (first | refine aops_put rfl ?_ | refine aops_end ?_ | refine aops_endb ?_ | refine aops_o rfl rfl rfl ?_ | refine aops_max tok rfl rfl rfl rfl rfl rfl ?_ | refine aops_min tok rfl rfl rfl rfl rfl rfl ?_ | refine aops_a tok rfl (by omega) (by omega) rfl rfl rfl ?_ | refine aops_p tok rfl rfl rfl rfl ?_ | refine aops_ixa tok rfl rfl rfl (by decide) rfl rfl rfl rfl ?_ | refine aops_ld tok 0 rfl rfl rfl rfl rfl rfl rfl rfl ?_ | refine aops_ld tok 1 rfl rfl rfl rfl rfl rfl rfl rfl ?_ | refine aops_stn tok rfl rfl rfl rfl rfl rfl rfl rfl rfl ?_ | refine aops_stn1 tok rfl rfl rfl rfl rfl rfl rfl rfl rfl ?_ | refine acode_seq ?_ | refine acode_region ?_ | refine acode_block ?_ | refine acode_skip ?_ | refine then_n ?_ | refine block_n ?_)
  refine aops_call Try.func81 rfl rfl rfl rfl (add64_calls M) rfl rfl ?_
  rintro x M' ⟨c', rfl, rfl⟩
  repeat (first | refine aops_put rfl ?_ | refine aops_end ?_ | refine aops_endb ?_ | refine aops_o rfl rfl rfl ?_ | refine aops_max tok rfl rfl rfl rfl rfl rfl ?_ | refine aops_min tok rfl rfl rfl rfl rfl rfl ?_ | refine aops_a tok rfl (by omega) (by omega) rfl rfl rfl ?_ | refine aops_p tok rfl rfl rfl rfl ?_ | refine aops_ixa tok rfl rfl rfl (by decide) rfl rfl rfl rfl ?_ | refine aops_ld tok 0 rfl rfl rfl rfl rfl rfl rfl rfl ?_ | refine aops_ld tok 1 rfl rfl rfl rfl rfl rfl rfl rfl ?_ | refine aops_stn tok rfl rfl rfl rfl rfl rfl rfl rfl rfl ?_ | refine aops_stn1 tok rfl rfl rfl rfl rfl rfl rfl rfl rfl ?_ | refine acode_seq ?_ | refine acode_region ?_ | refine acode_block ?_ | refine acode_skip ?_ | refine then_n ?_ | refine block_n ?_)
  refine aops_callx Try.func73 rfl rfl rfl rfl (clone_calls (u8s_len b) (u8s_cell b) hl _) rfl rfl rfl ?_
  repeat (first | refine aops_put rfl ?_ | refine aops_end ?_ | refine aops_endb ?_ | refine aops_o rfl rfl rfl ?_ | refine aops_max tok rfl rfl rfl rfl rfl rfl ?_ | refine aops_min tok rfl rfl rfl rfl rfl rfl ?_ | refine aops_a tok rfl (by omega) (by omega) rfl rfl rfl ?_ | refine aops_p tok rfl rfl rfl rfl ?_ | refine aops_ixa tok rfl rfl rfl (by decide) rfl rfl rfl rfl ?_ | refine aops_ld tok 0 rfl rfl rfl rfl rfl rfl rfl rfl ?_ | refine aops_ld tok 1 rfl rfl rfl rfl rfl rfl rfl rfl ?_ | refine aops_stn tok rfl rfl rfl rfl rfl rfl rfl rfl rfl ?_ | refine aops_stn1 tok rfl rfl rfl rfl rfl rfl rfl rfl rfl ?_ | refine acode_seq ?_ | refine acode_region ?_ | refine acode_block ?_ | refine acode_skip ?_ | refine then_n ?_ | refine block_n ?_)
  refine aops_litn tok rfl rfl rfl rfl rfl rfl rfl ?_
  repeat (first | refine aops_put rfl ?_ | refine aops_end ?_ | refine aops_endb ?_ | refine aops_o rfl rfl rfl ?_ | refine aops_max tok rfl rfl rfl rfl rfl rfl ?_ | refine aops_min tok rfl rfl rfl rfl rfl rfl ?_ | refine aops_a tok rfl (by omega) (by omega) rfl rfl rfl ?_ | refine aops_p tok rfl rfl rfl rfl ?_ | refine aops_ixa tok rfl rfl rfl (by decide) rfl rfl rfl rfl ?_ | refine aops_ld tok 0 rfl rfl rfl rfl rfl rfl rfl rfl ?_ | refine aops_ld tok 1 rfl rfl rfl rfl rfl rfl rfl rfl ?_ | refine aops_stn tok rfl rfl rfl rfl rfl rfl rfl rfl rfl ?_ | refine aops_stn1 tok rfl rfl rfl rfl rfl rfl rfl rfl rfl ?_ | refine acode_seq ?_ | refine acode_region ?_ | refine acode_block ?_ | refine acode_skip ?_ | refine then_n ?_ | refine block_n ?_)
  refine aops_callx Try.func82 rfl rfl rfl rfl (count_calls hb _) rfl rfl rfl ?_
  repeat (first | refine aops_put rfl ?_ | refine aops_end ?_ | refine aops_endb ?_ | refine aops_o rfl rfl rfl ?_ | refine aops_max tok rfl rfl rfl rfl rfl rfl ?_ | refine aops_min tok rfl rfl rfl rfl rfl rfl ?_ | refine aops_a tok rfl (by omega) (by omega) rfl rfl rfl ?_ | refine aops_p tok rfl rfl rfl rfl ?_ | refine aops_ixa tok rfl rfl rfl (by decide) rfl rfl rfl rfl ?_ | refine aops_ld tok 0 rfl rfl rfl rfl rfl rfl rfl rfl ?_ | refine aops_ld tok 1 rfl rfl rfl rfl rfl rfl rfl rfl ?_ | refine aops_stn tok rfl rfl rfl rfl rfl rfl rfl rfl rfl ?_ | refine aops_stn1 tok rfl rfl rfl rfl rfl rfl rfl rfl rfl ?_ | refine acode_seq ?_ | refine acode_region ?_ | refine acode_block ?_ | refine acode_skip ?_ | refine then_n ?_ | refine block_n ?_)
  refine aops_boxf rfl rfl rfl rfl rfl rfl rfl ?_
  repeat (first | refine aops_put rfl ?_ | refine aops_end ?_ | refine aops_endb ?_ | refine aops_o rfl rfl rfl ?_ | refine aops_max tok rfl rfl rfl rfl rfl rfl ?_ | refine aops_min tok rfl rfl rfl rfl rfl rfl ?_ | refine aops_a tok rfl (by omega) (by omega) rfl rfl rfl ?_ | refine aops_p tok rfl rfl rfl rfl ?_ | refine aops_ixa tok rfl rfl rfl (by decide) rfl rfl rfl rfl ?_ | refine aops_ld tok 0 rfl rfl rfl rfl rfl rfl rfl rfl ?_ | refine aops_ld tok 1 rfl rfl rfl rfl rfl rfl rfl rfl ?_ | refine aops_stn tok rfl rfl rfl rfl rfl rfl rfl rfl rfl ?_ | refine aops_stn1 tok rfl rfl rfl rfl rfl rfl rfl rfl rfl ?_ | refine acode_seq ?_ | refine acode_region ?_ | refine acode_block ?_ | refine acode_skip ?_ | refine then_n ?_ | refine block_n ?_)
  refine acode_ret ?_
  repeat (first | refine exit_then ?_ | refine exit_here ?_ | refine exit_out rfl ?_ | refine ret_then ?_ | refine ret_block ?_ | refine then_n ?_ | refine block_n ?_)
  exact ⟨_, ⟨c', rfl, rfl⟩, resOf_tmp rfl⟩
theorem innerC_calls {x y z x' y' z' : A} {s n h s' n' h' : Nat} {mb : Nat} (hs : s + s' ≤ 1000000000) (hn : n + n' ≤ 1000000000) (hh : max h h' ≤ 1000000000) (M : List Ob) :
    ACalls Try.prog 72 [.pp [x, y, z, .int .i64 s, .int .i64 n, .int .i64 h, .ref mb 0], .pp [x', y', z', .int .i64 s', .int .i64 n', .int .i64 h', .ref mb 0]] M (fun r M' => r = .pp [.nils, .pp [x, y, z, .int .i64 s, .int .i64 n, .int .i64 h, .ref mb 0], .pp [x', y', z', .int .i64 s', .int .i64 n', .int .i64 h', .ref mb 0], .int .i64 ((s : Int) + s'), .int .i64 ((n : Int) + n'), .int .i64 (1 + max (h : Int) h'), .ref mb 0] ∧ M' = M) := by
  refine acalls_of_code 41 Try.func72 rfl rfl rfl ?_
  repeat (first | refine aops_put rfl ?_ | refine aops_end ?_ | refine aops_endb ?_ | refine aops_o rfl rfl rfl ?_ | refine aops_max tok rfl rfl rfl rfl rfl rfl ?_ | refine aops_min tok rfl rfl rfl rfl rfl rfl ?_ | refine aops_a tok rfl (by omega) (by omega) rfl rfl rfl ?_ | refine aops_p tok rfl rfl rfl rfl ?_ | refine aops_ixa tok rfl rfl rfl (by decide) rfl rfl rfl rfl ?_ | refine aops_ld tok 0 rfl rfl rfl rfl rfl rfl rfl rfl ?_ | refine aops_ld tok 1 rfl rfl rfl rfl rfl rfl rfl rfl ?_ | refine aops_stn tok rfl rfl rfl rfl rfl rfl rfl rfl rfl ?_ | refine aops_stn1 tok rfl rfl rfl rfl rfl rfl rfl rfl rfl ?_ | refine acode_seq ?_ | refine acode_region ?_ | refine acode_block ?_ | refine acode_skip ?_ | refine then_n ?_ | refine block_n ?_)
  refine acode_drawP [] 35 [0, 1, 2, 3, 4, 5, 6, 7, 8, 9, 10, 11, 12, 13, 14, 15, 16, 17, 18, 19, 20, 21, 22, 23, 24, 25, 26, 27, 28, 29, 30, 31, 32, 33, 34] [] mixed (by kernel_rfl) (by kernel_rfl) rfl ?_
  refine seqO_T rfl ?_
  repeat (first | refine seqT_put rfl ?_ | refine seqT_o rfl rfl rfl ?_ | refine seqT_max tok rfl rfl rfl rfl rfl rfl ?_ | refine seqT_min tok rfl rfl rfl rfl rfl rfl ?_ | refine seqT_a tok rfl (by omega) (by omega) rfl rfl rfl ?_ | refine seqT_p tok rfl rfl rfl rfl ?_ | refine seqT_ixa tok rfl rfl rfl (by decide) rfl rfl rfl rfl ?_ | refine seqT_ld tok 0 rfl rfl rfl rfl rfl rfl rfl rfl ?_ | refine seqT_ld tok 1 rfl rfl rfl rfl rfl rfl rfl rfl ?_)
  refine SeqT.done ?_
  refine aops_boxf rfl rfl rfl rfl rfl rfl rfl ?_
  repeat (first | refine aops_put rfl ?_ | refine aops_end ?_ | refine aops_endb ?_ | refine aops_o rfl rfl rfl ?_ | refine aops_max tok rfl rfl rfl rfl rfl rfl ?_ | refine aops_min tok rfl rfl rfl rfl rfl rfl ?_ | refine aops_a tok rfl (by omega) (by omega) rfl rfl rfl ?_ | refine aops_p tok rfl rfl rfl rfl ?_ | refine aops_ixa tok rfl rfl rfl (by decide) rfl rfl rfl rfl ?_ | refine aops_ld tok 0 rfl rfl rfl rfl rfl rfl rfl rfl ?_ | refine aops_ld tok 1 rfl rfl rfl rfl rfl rfl rfl rfl ?_ | refine aops_stn tok rfl rfl rfl rfl rfl rfl rfl rfl rfl ?_ | refine aops_stn1 tok rfl rfl rfl rfl rfl rfl rfl rfl rfl ?_ | refine acode_seq ?_ | refine acode_region ?_ | refine acode_block ?_ | refine acode_skip ?_ | refine then_n ?_ | refine block_n ?_)
  refine acode_ret ?_
  repeat (first | refine exit_then ?_ | refine exit_here ?_ | refine exit_out rfl ?_ | refine ret_then ?_ | refine ret_block ?_ | refine then_n ?_ | refine block_n ?_)
  exact ⟨_, ⟨rfl, rfl⟩, resOf_tmp rfl⟩
theorem inner_calls {l r : RT} {mb : Nat} (hs : l.sz + r.sz ≤ 1000000000) (hh : max l.ht r.ht ≤ 1000000000) (M : List Ob) : ACalls Try.prog 72 [ropeA mb l, ropeA mb r] M (fun x M' => x = ropeA mb (.nd l r) ∧ M' = M) := by
  have hn : ∀ t : RT, t.ln ≤ t.sz := fun t => by rw [RT.ln_eq]; exact List.count_le_length
  obtain ⟨x, y, z, e1⟩ := ropeC_eq mb l
  obtain ⟨x', y', z', e2⟩ := ropeC_eq mb r
  have h := innerC_calls (x := x) (y := y) (z := z) (x' := x') (y' := y') (z' := z') (mb := mb) hs (by have := hn l; have := hn r; omega : l.ln + r.ln ≤ _) hh M
  rw [← e1, ← e2] at h
  refine h.mono ?_
  rintro a M' ⟨rfl, rfl⟩
  refine ⟨?_, rfl⟩
  rw [show ((l.sz : Int) + r.sz) = ((RT.nd l r).sz : Nat) by simp [RT.sz, RT.txt], show ((l.ln : Int) + r.ln) = ((RT.nd l r).ln : Nat) by simp [RT.ln], show (1 + max (l.ht : Int) r.ht) = ((RT.nd l r).ht : Nat) by simp [RT.ht]; omega]
  rfl
end Go.Proofs.Ytnellmjnlnnckaa.Ab

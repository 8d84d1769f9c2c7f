/- nil slices told as empty ones, however deep; objects in objects. No condition. -/
import Derived.Test.YtafncdbkbmaifaaAbK
set_option linter.unusedVariables false
set_option linter.unusedSimpArgs false
namespace Go.Proofs.Ytafncdbkbmaifaa.Ab
section
variable {P : Program} {T : List TI} {N : Nat} {ops : Array Oper} {rest : List Oper} {o : Oper} {Q : Exit → St → Prop} {E F : Env} {M : List Ob}
/-! ### nil slices as empty ones, however deep -/
mutual
def deep : A → A
  | .nils => .psl 0 []
  | .agg cs => .agg (deepL cs)
  | .psl n cs => .psl n (deepL cs)
  | x => x
def deepL : List A → List A
  | [] => []
  | x :: xs => deep x :: deepL xs
end
theorem deepL_nil : ∀ {xs : List A}, xs = [] → deepL xs = []
  | _, rfl => rfl
mutual
theorem deep_rep {G : Gh} : ∀ (x : A) (v : Value), Rep G x v → Rep G (deep x) v
  | .nils, v, h => by rw [deep]; exact nils_psl h
  | .agg cs, v, h => by
    rw [deep]
    obtain ⟨vs, e, hl⟩ := h
    exact ⟨vs, e, deepL_rep cs vs hl⟩
  | .psl n cs, v, h => by
    rw [deep]
    obtain ⟨a, cap, e, hn, h0, vs, hl, hz⟩ := h
    exact ⟨a, cap, e, hn, h0, vs, deepL_rep cs vs hl, hz.imp deepL_nil id⟩
  | .any, _, h | .bool _, _, h | .int _ _, _, h | .str _, _, h | .nilp, _, h | .nilf, _, h | .pp _, _, h | .cp _, _, h | .tref _ _, _, h | .town _ _ _ _, _, h | .ref _ _, _, h | .own _ _ _, _, h | .fn _ _, _, h | .tup _, _, h | .mp _, _, h | .mr _, _, h => by simp only [deep]; exact h
theorem deepL_rep {G : Gh} : ∀ (xs : List A) (vs : List Value), RepL G xs vs → RepL G (deepL xs) vs
  | [], vs, h => by rw [deepL]; exact h
  | x :: xs, vs, h => by
    rw [deepL]
    obtain ⟨v, vs', e, h1, h2⟩ := h
    exact ⟨v, vs', e, deep_rep x v h1, deepL_rep xs vs' h2⟩
end
theorem aops_calld {d : Nat} {g : Operand} {args : Array Operand} {tys : Array TypeId} {f : FuncId} {cap as : List A} {fn : Func} {x : A} (hf : P.funcs[f]? = some fn) (ho : o.op = .call { callee := .value g, args, argTypes := tys }) (hgv : opA E g = .fn f cap)
    (hfn : callable fn = true) (has : deepL (args.toList.map (opA E) ++ cap) = as) (hc : ACalls P f as M (fun r M' => r = x ∧ M' = M)) (hg : guardOn ops o E = some true) (hd : o.dst = some d) (hN : Nat.blt d N = true)
    (next : AOps P N ops rest Q ⟨(d, x) :: E, M⟩) : AOps P N ops (o :: rest) Q ⟨E, M⟩ := by
  refine aops_call_as as hf ho hgv hfn rfl (fun G vs h => by rw [← has]; exact deepL_rep _ _ h) hc hg (by rw [hd]; exact hN) ?_
  rintro y M' ⟨rfl, rfl⟩
  rw [hd]; exact next
end
end Go.Proofs.Ytafncdbkbmaifaa.Ab

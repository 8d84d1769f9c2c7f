/- More rules: one's own slice within an object. No condition. -/
import Derived.Test.YtafncdbkbmaifaaAbS
set_option linter.unusedVariables false
set_option linter.unusedSimpArgs false
namespace Go.Proofs.Ytafncdbkbmaifaa.Ab
section
variable {P : Program} {T : List TI} {N : Nat} {ops : Array Oper} {rest : List Oper} {o : Oper} {Q : Exit → St → Prop} {E F : Env} {M : List Ob}
theorem somed_inv {K : Ctx} {G : Gh} {a : Act} {w : World} (hi : Inv K N G ⟨E, M⟩ a w) (k j : Nat) {b room : Nat} {cs : List A} {ob : Option Nat} {n cap : Nat} (hM : M[k]? = some ⟨some b, room, cs⟩) (hc : cs[j]? = some (.own ob n cap)) (hn : 0 < n) : ∃ b', ob = some b' := by
  cases ob with
  | some b => exact ⟨b, rfl⟩
  | none =>
    obtain ⟨vs, sp, t, _, h2, _⟩ := hi.ok.ow _ (List.mem_of_getElem? hM) b rfl
    obtain ⟨v, _, hr⟩ := h2.at j hc
    obtain ⟨_, h0, _⟩ := hr
    omega
/-- One's own slice in an object's field, not empty, has a block. -/
theorem aops_somedM {l : List Oper} (k j : Nat) {b room : Nat} {cs : List A} {ob : Option Nat} {n cap : Nat} (hM : M[k]? = some ⟨some b, room, cs⟩) (hc : cs[j]? = some (.own ob n cap)) (hn : 0 < n) (next : ∀ b, ob = some b → AOps P N ops l Q ⟨E, M⟩) : AOps P N ops l Q ⟨E, M⟩ := by
  intro K G a w hi
  obtain ⟨b', h⟩ := somed_inv hi k j hM hc hn
  exact next b' h K G a w hi
theorem acode_somedM {c : Code} (k j : Nat) {b room : Nat} {cs : List A} {ob : Option Nat} {n cap : Nat} (hM : M[k]? = some ⟨some b, room, cs⟩) (hc : cs[j]? = some (.own ob n cap)) (hn : 0 < n) (next : ∀ b, ob = some b → ACode P N c Q ⟨E, M⟩) : ACode P N c Q ⟨E, M⟩ := by
  intro K G a w hi
  obtain ⟨b', h⟩ := somed_inv hi k j hM hc hn
  exact next b' h K G a w hi
theorem vw_alts {M : List Ob} {α : Type} {e : α → List A} {x : α} {z : List A} (h : VwL M z (e x)) (n : Nat) : VwL M (zerosA z n) (encs e (List.replicate n x)) := by
  induction n with
  | zero => exact .nil
  | succ n ih =>
    simp only [zerosA, List.replicate_succ, List.flatten_cons, encs, List.flatMap_cons] at ih ⊢
    exact h.app ih
theorem encs_rep {α β : Type} (e : α → List A) (x : α) : ∀ (l : List β), encs (fun _ => e x) l = encs e (List.replicate l.length x)
  | [] => rfl
  | y :: l => by
    have := encs_rep e x l
    simp only [encs, List.flatMap_cons, List.length_cons, List.replicate_succ] at this ⊢
    rw [this]
end
end Go.Proofs.Ytafncdbkbmaifaa.Ab

/- Trees in plain terms. No condition. -/
import Derived.Test.YtnlmfhnjjblhoaaFor1
set_option linter.unusedVariables false
set_option linter.unusedSimpArgs false
namespace Go.Proofs.Ytnlmfhnjjblhoaa.Ab
inductive Tr where
  | mk (rule tok : Int) (kids : List Tr)
  deriving Inhabited
def Tr.rule : Tr → Int | .mk r _ _ => r
def Tr.tok : Tr → Int | .mk _ t _ => t
def Tr.kids : Tr → List Tr | .mk _ _ ks => ks
mutual
def trC : Tr → List A
  | .mk r t ks => [.int .i64 r, .int .i64 t, .psl ks.length (trsC ks)]
def trsC : List Tr → List A
  | [] => []
  | t :: ts => trC t ++ trsC ts
end
theorem trsC_encs : ∀ ts : List Tr, trsC ts = encs trC ts
  | [] => rfl
  | t :: ts => by simp only [trsC, encs, List.flatMap_cons, trsC_encs ts]
theorem trC_eq (t : Tr) : trC t = [.int .i64 t.rule, .int .i64 t.tok, .psl t.kids.length (encs trC t.kids)] := by
  cases t with
  | mk r k ks => simp only [trC, trsC_encs, Tr.rule, Tr.tok, Tr.kids]
theorem trC_len (t : Tr) : (trC t).length = 3 := by rw [trC_eq]; rfl
theorem tr_at {l : List Tr} {i : Nat} {x : Tr} (h : l[i]? = some x) : trC x <+: (encs trC l).drop (i * 3) := encs_at trC_len h
mutual
def trSize : Tr → Nat
  | .mk _ _ ks => 1 + trsSize ks
def trsSize : List Tr → Nat
  | [] => 0
  | t :: ts => trSize t + trsSize ts
end
theorem trSize_eq (t : Tr) : trSize t = 1 + trsSize t.kids := by cases t; simp [trSize, Tr.kids]
theorem trSize_pos (t : Tr) : 0 < trSize t := by rw [trSize_eq]; omega
theorem trsSize_len : ∀ ts : List Tr, ts.length ≤ trsSize ts
  | [] => Nat.le_refl _
  | t :: ts => by have := trsSize_len ts; have := trSize_pos t; simp only [List.length_cons, trsSize]; omega
theorem trsSize_mem : ∀ {ts : List Tr} {t : Tr}, t ∈ ts → trSize t ≤ trsSize ts
  | [], _, h => by cases h
  | t0 :: ts, t, h => by
    simp only [trsSize]
    rcases List.mem_cons.1 h with rfl | h
    · omega
    · have := trsSize_mem h; omega
theorem Tr.ind {p : Tr → Prop} (h : ∀ t : Tr, (∀ k ∈ t.kids, p k) → p t) (t : Tr) : p t := by
  suffices hs : ∀ n t, trSize t < n → p t from hs _ t (Nat.lt_succ_self _)
  intro n
  induction n with
  | zero => intro t ht; omega
  | succ n ih =>
    intro t ht
    refine h t fun k hk => ih k ?_
    have := trsSize_mem hk
    rw [trSize_eq] at ht; omega
/-! ### which trees may be -/
abbrev F3 := Int × Int × Int
mutual
def mayB (fb : List F3) : Tr → Bool
  | .mk r _ ks => decide (r = -1) || maysB fb r 0 ks
def maysB (fb : List F3) (r : Int) : Nat → List Tr → Bool
  | _, [] => true
  | p, k :: ks => !(decide (k.rule ≠ -1 ∧ (r, (p : Int), k.rule) ∈ fb)) && mayB fb k && maysB fb r (p + 1) ks
end
theorem mayB_eq (fb : List F3) (t : Tr) : mayB fb t = (decide (t.rule = -1) || maysB fb t.rule 0 t.kids) := by cases t; rw [mayB]; rfl
theorem drop_at {α : Type} {l : List α} {i : Nat} {x : α} (h : l[i]? = some x) : l.drop i = x :: l.drop (i + 1) := by
  obtain ⟨h2, rfl⟩ := List.getElem?_eq_some_iff.1 h
  exact List.drop_eq_getElem_cons h2
theorem maysB_step {fb : List F3} {r : Int} {ks : List Tr} {i : Nat} {k : Tr} (h : ks[i]? = some k) : maysB fb r i (ks.drop i) = (!(decide (k.rule ≠ -1 ∧ (r, (i : Int), k.rule) ∈ fb)) && mayB fb k && maysB fb r (i + 1) (ks.drop (i + 1))) := by
  rw [drop_at h]; rfl
end Go.Proofs.Ytnlmfhnjjblhoaa.Ab

/- Texts of this proof, one behind the other (Fil2, Chs1, AbV, AbZ, AbW, Fil1, Ab8, Cu1, Unf1, ChB0, Ac0, ChK, Yd0, Yd1, Yd2, Yd3, CmP, ChL, ChM, ChB, ChC, ChD, Ab9, ChE, Fil8, Tre3, ChP, ChG, Tre4). No condition. -/
import Derived.Test.YtbnhmioijeagiaaChBestP2
import Derived.Laws.StructEq
import Derived.WideKeyRuns
import Derived.MapKept
import Derived.LaidEqlPtr
import Derived.RangeFuncIn
import Derived.RangeFuncLeaves
import Derived.RangeFuncRecord
import Derived.TacticsIn
import Derived.OrdersIn
/- How many trees of a forest may be, in plain terms. No condition. -/
set_option linter.unusedVariables false
set_option linter.unusedSimpArgs false
namespace Go.Proofs.Ytbnhmioijeagiaa.Ab

/-- Of a node's Alts those that may stand at a place of a rule. -/
def kidGo (fb : List F3) (r p : Int) : List Al → List Int → Int → Int
  | a :: aS, t :: ts, n => kidGo fb r p aS ts (if (r, p, a.rule) ∈ fb then n else addN n t)
  | _, _, n => n
def altGo (fb : List F3) (f : Fo) (g : Nat → List Int) (r : Int) : Nat → List Int → Int → Int
  | _, [], n => n
  | p, k :: ks, n => altGo fb f g r (p + 1) ks (if 0 ≤ k then mulN n (kidGo fb r p (altsOf f k.toNat) (g k.toNat) 0) else n)
def nodeG (fb : List F3) (f : Fo) (g : Nat → List Int) (i : Nat) : List Int := (altsOf f i).map fun a => altGo fb f g a.rule 0 a.kids 1
theorem altGo_congr {fb : List F3} {f : Fo} {g h : Nat → List Int} {r : Int} : ∀ (ks : List Int) (p : Nat) (n : Int), (∀ k : Nat, (k : Int) ∈ ks → g k = h k) → altGo fb f g r p ks n = altGo fb f h r p ks n
  | [], _, _, _ => rfl
  | k :: ks, p, n, hk => by
    have e : (if 0 ≤ k then mulN n (kidGo fb r p (altsOf f k.toNat) (g k.toNat) 0) else n) = (if 0 ≤ k then mulN n (kidGo fb r p (altsOf f k.toNat) (h k.toNat) 0) else n) := by
      split
      · rename_i h0; rw [hk k.toNat (by rw [Int.toNat_of_nonneg h0]; simp)]
      · rfl
    simp only [altGo, e]
    exact altGo_congr ks _ _ fun k hm => hk k (by simp [hm])
theorem nodeG_congr {fb : List F3} {f : Fo} {g h : Nat → List Int} {i : Nat} (hk : ∀ k : Nat, Kid f i k → g k = h k) : nodeG fb f g i = nodeG fb f h i := by
  unfold nodeG
  refine List.map_congr_left fun a ha => altGo_congr _ _ _ fun k hm => hk k ⟨a, ha, hm⟩
theorem ftr_ex (fb : List F3) (f : Fo) : ∃ T : Nat → List Int, ∀ i, WF f i → T i = nodeG fb f T i := recT (nodeG fb f) fun g h i hk => nodeG_congr hk
noncomputable def ftr (fb : List F3) (f : Fo) : Nat → List Int := Classical.choose (ftr_ex fb f)
theorem ftr_eq {fb : List F3} {f : Fo} {i : Nat} (h : WF f i) : ftr fb f i = nodeG fb f (ftr fb f) i := Classical.choose_spec (ftr_ex fb f) i h
theorem ftr_len {fb : List F3} {f : Fo} {i : Nat} (h : WF f i) : (ftr fb f i).length = (altsOf f i).length := by rw [ftr_eq h]; simp [nodeG]
theorem kidGo_is {fb : List F3} {r p : Int} : ∀ (aS : List Al) (ts : List Int) (n : Int), isN n → (∀ t ∈ ts, isN t) → isN (kidGo fb r p aS ts n)
  | [], _, n, h, _ => by simpa [kidGo] using h
  | _ :: _, [], n, h, _ => by simpa [kidGo] using h
  | a :: aS, t :: ts, n, h, ht => by
    simp only [kidGo]
    refine kidGo_is aS ts _ ?_ fun t hm => ht t (by simp [hm])
    split
    · exact h
    · exact addN_is h (ht t (by simp))
theorem altGo_is {fb : List F3} {f : Fo} {g : Nat → List Int} {r : Int} : ∀ (ks : List Int) (p : Nat) (n : Int), isN n → (∀ k : Nat, (k : Int) ∈ ks → ∀ t ∈ g k, isN t) → isN (altGo fb f g r p ks n)
  | [], _, _, h, _ => h
  | k :: ks, p, n, h, hk => by
    simp only [altGo]
    refine altGo_is ks _ _ ?_ fun k hm => hk k (by simp [hm])
    split
    · rename_i h0; exact mulN_is h (kidGo_is _ _ _ ⟨by decide, by decide⟩ (hk k.toNat (by rw [Int.toNat_of_nonneg h0]; simp)))
    · exact h
theorem ftr_is {fb : List F3} {f : Fo} {i : Nat} (h : WF f i) : ∀ t ∈ ftr fb f i, isN t := by
  induction h with
  | @mk i hi hk hs ih =>
    rw [ftr_eq (.mk hi hk hs)]
    intro t ht
    obtain ⟨a, ha, rfl⟩ := List.mem_map.1 ht
    exact altGo_is _ _ _ ⟨by decide, by decide⟩ fun k hm => ih k ⟨a, ha, hm⟩
def sumN (l : List Int) : Int := l.foldl addN 0
theorem foldl_addN_is : ∀ (l : List Int) (n : Int), isN n → (∀ t ∈ l, isN t) → isN (l.foldl addN n)
  | [], _, h, _ => h
  | t :: l, n, h, hl => foldl_addN_is l _ (addN_is h (hl t (by simp))) fun t hm => hl t (by simp [hm])
theorem sumN_is {l : List Int} (h : ∀ t ∈ l, isN t) : isN (sumN l) := foldl_addN_is l 0 ⟨by decide, by decide⟩ h
/-! ### without anything forbidden -/
theorem kidGo_none {r p : Int} : ∀ (aS : List Al) (ts : List Int) (n : Int), aS.length = ts.length → kidGo [] r p aS ts n = ts.foldl addN n
  | [], [], n, _ => rfl
  | [], _ :: _, n, h => by simp at h
  | _ :: _, [], n, h => by simp at h
  | a :: aS, t :: ts, n, h => by
    simp only [kidGo, List.not_mem_nil, if_false, List.foldl_cons]
    exact kidGo_none aS ts _ (by simpa using h)
theorem altGo_none {f : Fo} {g : Nat → List Int} {T : Nat → Int} {r : Int} : ∀ (ks : List Int) (p : Nat) (n : Int), (∀ k : Nat, (k : Int) ∈ ks → (g k).length = (altsOf f k).length ∧ sumN (g k) = T k) → altGo [] f g r p ks n = altF T n ks
  | [], _, _, _ => rfl
  | k :: ks, p, n, hk => by
    simp only [altGo, altF, List.foldl_cons]
    rw [altGo_none ks _ _ fun k hm => hk k (by simp [hm])]
    congr 1
    split
    · rename_i h0
      obtain ⟨h1, h2⟩ := hk k.toNat (by rw [Int.toNat_of_nonneg h0]; simp)
      rw [kidGo_none _ _ _ h1.symm, ← h2]; rfl
    · rfl
theorem ftr_none {f : Fo} {i : Nat} (h : WF f i) : sumN (ftr [] f i) = trees f i := by
  induction h with
  | @mk i hi hk hs ih =>
    rw [ftr_eq (.mk hi hk hs), trees_eq (.mk hi hk hs)]
    have : ∀ (l : List Al) (n : Int), (∀ a ∈ l, a ∈ altsOf f i) → (l.map fun a => altGo [] f (ftr [] f) a.rule 0 a.kids 1).foldl addN n = altsF (trees f) n l := by
      intro l
      induction l with
      | nil => intro n _; rfl
      | cons a l ih2 =>
        intro n hl
        simp only [List.map_cons, List.foldl_cons, altsF]
        rw [altGo_none (T := trees f) a.kids 0 1 fun k hm => ⟨ftr_len (hs k ⟨a, hl a (by simp), hm⟩), ih k ⟨a, hl a (by simp), hm⟩⟩]
        exact ih2 _ fun b hb => hl b (by simp [hb])
    exact this (altsOf f i) 0 fun a h => h
end Go.Proofs.Ytbnhmioijeagiaa.Ab
/- Package choose in plain terms: picks, the best of a node's, the tree of a pick. No condition. -/
set_option linter.unusedVariables false
set_option linter.unusedSimpArgs false
namespace Go.Proofs.Ytbnhmioijeagiaa.Ab

/-- A pick: the best tree of an Alt (tk: none, or a token's place). -/
inductive Pk where
  | tk
  | nd (a : Al) (w : Int) (kids : List Pk)
instance : Inhabited Pk := ⟨.tk⟩
def Pk.isTk : Pk → Bool | .tk => true | _ => false
def Pk.rule : Pk → Int | .tk => -1 | .nd a _ _ => a.rule
def Pk.wt : Pk → Int | .tk => 0 | .nd _ w _ => w
mutual
def pkA : Pk → A
  | .tk => .nilp
  | .nd a w ks => .cp [.int .i64 a.rule, .psl a.kids.length (ints a.kids), .int .i64 w, .psl ks.length (pksA ks)]
def pksA : List Pk → List A
  | [] => []
  | k :: ks => pkA k :: pksA ks
end
def pk1 (p : Pk) : List A := [pkA p]
theorem pk1_len (p : Pk) : (pk1 p).length = 1 := rfl
theorem pksA_encs : ∀ ks : List Pk, pksA ks = encs pk1 ks
  | [] => rfl
  | k :: ks => by rw [pksA, pksA_encs ks]; rfl
theorem pkA_nd (a : Al) (w : Int) (ks : List Pk) : pkA (.nd a w ks) = .cp [.int .i64 a.rule, .psl a.kids.length (ints a.kids), .int .i64 w, .psl ks.length (encs pk1 ks)] := by rw [pkA, pksA_encs]
def mayP (fb : List F3) (r p : Int) (q : Int) : Bool := !decide ((r, p, q) ∈ fb)
mutual
def rulesP : Pk → List Int
  | .tk => []
  | .nd a _ ks => a.rule :: rulesPs ks
def rulesPs : List Pk → List Int
  | [] => []
  | k :: ks => rulesP k ++ rulesPs ks
end
/-- Two rows held against each other, as slices.Compare does. -/
def cmpI' (a b : Int) : Int := if a < b then -1 else if a > b then 1 else 0
def cmpL : List Int → List Int → Int
  | [], [] => 0
  | [], _ :: _ => -1
  | _ :: _, [] => 1
  | x :: a, y :: b => if x = y then cmpL a b else cmpI' x y
def betP (p out : Pk) : Bool := decide (p.wt > out.wt) || (decide (p.wt = out.wt) && decide (cmpL (rulesP p) (rulesP out) < 0))
def bestS (may : Int → Bool) (out p : Pk) : Pk := if p.isTk || !may p.rule then out else if out.isTk || betP p out then p else out
def bestF (may : Int → Bool) (l : List Pk) : Pk := l.foldl (bestS may) .tk
def goP (fb : List F3) (T : Nat → List Pk) (r : Int) : Nat → List Int → Int → List Pk → Option (Int × List Pk)
  | _, [], w, ks => some (w, ks)
  | p, k :: l, w, ks => if k < 0 then goP fb T r (p + 1) l w (ks ++ [.tk]) else
    if (bestF (mayP fb r p) (T k.toNat)).isTk then none else goP fb T r (p + 1) l (IntKind.i64.wrap (w + (bestF (mayP fb r p) (T k.toNat)).wt)) (ks ++ [bestF (mayP fb r p) (T k.toNat)])
def altP (g : Gr) (T : Nat → List Pk) (a : Al) : Pk := match goP g.forbid T a.rule 0 a.kids (dynF g a.rule) [] with
  | some x => .nd a x.1 x.2
  | none => .tk
def rowP (g : Gr) (f : Fo) (T : Nat → List Pk) (i : Nat) : List Pk := (altsOf f i).map (altP g T)
theorem goP_congr {fb : List F3} {T S : Nat → List Pk} {r : Int} : ∀ (l : List Int) (p : Nat) (w : Int) (ks : List Pk), (∀ k : Nat, (k : Int) ∈ l → T k = S k) → goP fb T r p l w ks = goP fb S r p l w ks
  | [], _, _, _, _ => rfl
  | k :: l, p, w, ks, h => by
    have h2 : ∀ q : Nat, (q : Int) ∈ l → T q = S q := fun q hq => h q (by simp [hq])
    simp only [goP]
    split
    · exact goP_congr l _ _ _ h2
    · rename_i h0
      rw [h k.toNat (by rw [Int.toNat_of_nonneg (by omega)]; simp)]
      split
      · rfl
      · exact goP_congr l _ _ _ h2
theorem rowP_congr {g : Gr} {f : Fo} {T S : Nat → List Pk} {i : Nat} (hk : ∀ k : Nat, Kid f i k → T k = S k) : rowP g f T i = rowP g f S i := by
  unfold rowP
  refine List.map_congr_left fun a ha => ?_
  unfold altP
  rw [goP_congr a.kids _ _ _ fun k hm => hk k ⟨a, ha, hm⟩]
theorem pkT_ex (g : Gr) (f : Fo) : ∃ T : Nat → List Pk, ∀ i, WF f i → T i = rowP g f T i := recT (rowP g f) fun _ _ _ hk => rowP_congr hk
noncomputable def pkT (g : Gr) (f : Fo) : Nat → List Pk := Classical.choose (pkT_ex g f)
theorem pkT_eq {g : Gr} {f : Fo} {i : Nat} (h : WF f i) : pkT g f i = rowP g f (pkT g f) i := Classical.choose_spec (pkT_ex g f) i h
theorem pkT_len {g : Gr} {f : Fo} {i : Nat} (h : WF f i) : (pkT g f i).length = (altsOf f i).length := by rw [pkT_eq h]; simp [rowP]
theorem best_from (may : Int → Bool) : ∀ (l : List Pk) (out : Pk), l.foldl (bestS may) out = out ∨ (l.foldl (bestS may) out ∈ l ∧ (l.foldl (bestS may) out).isTk = false ∧ may (l.foldl (bestS may) out).rule = true)
  | [], out => .inl rfl
  | p :: l, out => by
    rw [List.foldl_cons]
    have hs : bestS may out p = out ∨ bestS may out p = p ∧ p.isTk = false ∧ may p.rule = true := by
      unfold bestS
      split
      · exact .inl rfl
      · rename_i h
        simp only [Bool.or_eq_true, Bool.not_eq_true', not_or, Bool.not_eq_true, Bool.not_eq_false] at h
        split
        · exact .inr ⟨rfl, h.1, h.2⟩
        · exact .inl rfl
    rcases best_from may l (bestS may out p) with h | ⟨h1, h2, h3⟩
    · rw [h]
      rcases hs with h4 | ⟨h4, h5, h6⟩
      · exact .inl h4
      · rw [h4]; exact .inr ⟨by simp, h5, h6⟩
    · exact .inr ⟨by simp [h1], h2, h3⟩
theorem best_in {may : Int → Bool} {l : List Pk} (h : (bestF may l).isTk = false) : bestF may l ∈ l ∧ may (bestF may l).rule = true := by
  unfold bestF at *
  rcases best_from may l .tk with h1 | h1
  · rw [h1] at h; cases h
  · exact ⟨h1.1, h1.2.2⟩
theorem best_tk {may : Int → Bool} : ∀ {l : List Pk}, (bestF may l).isTk = true ↔ ∀ p ∈ l, p.isTk = true ∨ may p.rule = false := by
  have key : ∀ (l : List Pk) (out : Pk), (l.foldl (bestS may) out).isTk = true ↔ out.isTk = true ∧ ∀ p ∈ l, p.isTk = true ∨ may p.rule = false := by
    intro l
    induction l with
    | nil => intro out; simp
    | cons p l ih =>
      intro out
      rw [List.foldl_cons, ih]
      have hs : (bestS may out p).isTk = true ↔ out.isTk = true ∧ (p.isTk = true ∨ may p.rule = false) := by
        unfold bestS
        cases hp : p.isTk <;> cases hm : may p.rule <;> cases ho : out.isTk <;> simp [hp, ho]
        split <;> simp [hp, ho]
      rw [hs]
      simp only [List.mem_cons, forall_eq_or_imp, and_assoc]
  intro l
  unfold bestF
  rw [key]
  simp [Pk.isTk]
/- The tree of a pick. -/
mutual
def treeP : Pk → Tr
  | .tk => .mk (-1) 0 []
  | .nd a _ ks => .mk a.rule 0 (treesP a.kids ks)
def treesP : List Int → List Pk → List Tr
  | k :: l, .tk :: ks => leafT k :: treesP l ks
  | _ :: l, .nd a w q :: ks => treeP (.nd a w q) :: treesP l ks
  | _, _ => []
end
end Go.Proofs.Ytbnhmioijeagiaa.Ab
/- Calls that change some of one's own while all the rest is as good as frozen; much frozen at once. No condition. -/
set_option linter.unusedVariables false
set_option linter.unusedSimpArgs false
namespace Go.Proofs.Ytbnhmioijeagiaa.Ab
section
variable {G G2 : Gh} {V : List Ob}
mutual
theorem vwg_rep (hle : G.le G2) (hat : ∀ b room cs, (⟨some b, room, cs⟩ : Ob) ∈ V → ∃ vs, RepL G cs vs ∧ vs.length ≤ room ∧ At G2 b 0 vs ∧ (cs ≠ [] → G2.U b)) : ∀ (x y : A) (v : Value), Vw V x y → Rep G x v → Rep G2 y v
  | _, _, v, .refl x, h => h.mono hle x v
  | _, _, v, .own hm hr hcs hsz hl, h => by
    simp only [Rep] at h
    obtain ⟨vs, h2, h3, h4, h5⟩ := hat _ _ _ hm
    have hlen := h2.length
    refine ⟨_, _, h, Nat.le_of_mul_le_mul_right (a := _) (b := _) ?_ hsz, by simp, vs, vwgL_rep hle hat _ _ vs hl h2, .inr ⟨_, 0, rfl, h4⟩⟩
    omega
  | _, _, v, .none, h => by
    obtain ⟨rfl, _, _⟩ := h
    exact ⟨Option.none, 0, rfl, Nat.le_refl _, by simp, [], rfl, .inl rfl⟩
  | _, _, v, .nils, h => nils_psl h
  | _, _, v, .ref hm hl, h => by
    simp only [Rep] at h
    obtain ⟨vs, h2, h3, h4, h5⟩ := hat _ _ _ hm
    exact ⟨_, 0, vs, h, h4, vwgL_rep hle hat _ _ vs hl h2⟩
  | _, _, v, .refc hm hne hl, h => by
    simp only [Rep] at h
    obtain ⟨vs, h2, h3, h4, h5⟩ := hat _ _ _ hm
    exact ⟨_, 0, vs, h, h4, vwgL_rep hle hat _ _ vs hl h2, h5 hne⟩
  | _, _, v, .soft hl, h => by
    simp only [Rep] at h
    obtain ⟨b, off, vs, e, ha, h2, _⟩ := h
    exact ⟨b, off, vs, e, ha.mono hle, vwgL_rep hle hat _ _ vs hl h2⟩
  | _, _, v, .agg hl, h => by
    obtain ⟨vs, e, hl'⟩ := h
    exact ⟨vs, e, vwgL_rep hle hat _ _ vs hl hl'⟩
  | _, _, v, .psl hl, h => by
    obtain ⟨a, cap, e, hn, h0, vs, hl', hz⟩ := h
    refine ⟨a, cap, e, hn, h0, vs, vwgL_rep hle hat _ _ vs hl hl', ?_⟩
    rcases hz with rfl | ⟨b, off, e1, hat'⟩
    · exact .inl hl.nil_of
    · exact .inr ⟨b, off, e1, hat'.mono hle⟩
theorem vwgL_rep (hle : G.le G2) (hat : ∀ b room cs, (⟨some b, room, cs⟩ : Ob) ∈ V → ∃ vs, RepL G cs vs ∧ vs.length ≤ room ∧ At G2 b 0 vs ∧ (cs ≠ [] → G2.U b)) : ∀ (xs ys : List A) (vs : List Value), VwL V xs ys → RepL G xs vs → RepL G2 ys vs
  | _, _, vs, .nil, h => h
  | _, _, vs, .cons h1 h2, h => by
    obtain ⟨v, vs', e, h3, h4⟩ := h
    exact ⟨v, vs', e, vwg_rep hle hat _ _ v h1 h3, vwgL_rep hle hat _ _ vs' h2 h4⟩
end
end
mutual
/-- A value that tells of nothing frozen. -/
def looseA : A → Bool
  | .any | .bool _ | .int _ _ | .str _ | .nils | .nilp | .nilf | .ref _ _ | .own _ _ _ | .mr _ => true
  | .agg cs => looseL cs
  | .tup cs => looseL cs
  | _ => false
def looseL : List A → Bool
  | [] => true
  | x :: xs => looseA x && looseL xs
end
mutual
theorem loose_rep {G G' : Gh} : ∀ (x : A) (v : Value), looseA x = true → Rep G x v → Rep G' x v
  | .any, v, _, h | .bool _, v, _, h | .int _ _, v, _, h | .str _, v, _, h | .nils, v, _, h | .nilp, v, _, h | .nilf, v, _, h | .ref _ _, v, _, h | .mr _, v, _, h => h
  | .own none _ _, v, _, h | .own (some _) _ _, v, _, h => h
  | .agg cs, v, hp, h => by
    obtain ⟨vs, e, hl⟩ := h
    exact ⟨vs, e, looseL_rep cs vs (by simpa only [looseA] using hp) hl⟩
  | .tup cs, v, hp, h => by
    obtain ⟨vs, e, hl⟩ := h
    exact ⟨vs, e, looseL_rep cs vs (by simpa only [looseA] using hp) hl⟩
  | .pp _, _, hp, _ | .cp _, _, hp, _ | .tref _ _, _, hp, _ | .town _ _ _ _, _, hp, _ | .psl _ _, _, hp, _ | .fn _ _, _, hp, _ | .mp _, _, hp, _ | .yld _, _, hp, _ => by simp [looseA] at hp
theorem looseL_rep {G G' : Gh} : ∀ (xs : List A) (vs : List Value), looseL xs = true → RepL G xs vs → RepL G' xs vs
  | [], vs, _, h => h
  | x :: xs, vs, hp, h => by
    simp only [looseL, Bool.and_eq_true] at hp
    obtain ⟨v, vs', e, h1, h2⟩ := h
    exact ⟨v, vs', e, loose_rep x v hp.1 h1, looseL_rep xs vs' hp.2 h2⟩
end
theorem mem_keys {M : List Ob} {b : Nat} : b ∈ keys M ↔ ∃ o ∈ M, o.b = some b := List.mem_filterMap
theorem keys_app (M N : List Ob) : keys (M ++ N) = keys M ++ keys N := List.filterMap_append ..
/-- A call that changes W alone, V as good as frozen. -/
theorem acalls_part {P : Program} {f : FuncId} {aS bs : List A} {V W : List Ob} {R : A → List Ob → Prop} (hv : VwL V aS bs) (hc : ACalls P f bs W R) (hx : ∀ x M', R x M' → looseA x = true ∧ ∀ o ∈ M', looseL o.cs = true) :
    ACalls P f aS (W ++ V) (fun r M' => ∃ M1, R r M1 ∧ M' = M1 ++ V) := by
  classical
  intro G w vs hok hl
  have hnd := hok.nd
  rw [List.filterMap_append, List.nodup_append] at hnd
  obtain ⟨ndW, ndV, dis⟩ := hnd
  let G1 : Gh := ⟨fun b => if b ∈ keys W then [] else (G0 w).Z b, (G0 w).Y, fun b => b ∉ keys W ∧ (G0 w).U b, (G0 w).W⟩
  have z1 : ∀ b, b ∈ keys W → G1.Z b = [] := fun b h => if_pos h
  have z2 : ∀ b, b ∉ keys W → G1.Z b = (G0 w).Z b := fun b h => if_neg h
  have hle : G.le G1 := by
    refine ⟨fun b => ?_, (g_le_G0 hok).2.1, fun b hu => ⟨fun hb => ?_, (g_le_G0 hok).2.2.1 b hu⟩, (g_le_G0 hok).2.2.2⟩
    rotate_left
    · obtain ⟨o, ho, hob⟩ := mem_keys.1 hb
      exact (hok.um b hu).1 (hok.un o (List.mem_append_left _ ho) b hob)
    by_cases hb : b ∈ keys W
    · obtain ⟨o, ho, hob⟩ := mem_keys.1 hb
      rw [hok.un o (List.mem_append_left _ ho) b hob]; exact List.nil_prefix
    · rw [z2 b hb]; exact (g_le_G0 hok).1 b
  have notW : ∀ o ∈ V, ∀ b, o.b = some b → b ∉ keys W := fun o ho b hb hm => dis b hm b (List.mem_filterMap.2 ⟨o, ho, hb⟩) rfl
  have hok1 : Ok ⟨w, keys W, G1⟩ G1 W w := by
    refine ⟨Gh.le_refl _, rfl, rfl, rfl, Nat.le_refl _, fun _ _ _ => rfl, fun b hb => ?_, fun o ho b hb => ?_, fun o ho => hok.vn o (List.mem_append_left _ ho), fun o ho b hb => z1 b (mem_keys.2 ⟨o, ho, hb⟩), fun o ho b hb => .inl (mem_keys.2 ⟨o, ho, hb⟩), ndW, (ok_init w).mz, fun b hu => ⟨by rw [z2 b hu.1]; exact ((ok_init w).um b hu.2).1, ((ok_init w).um b hu.2).2⟩, (ok_init w).wt⟩
    · by_cases hm : b ∈ keys W
      · exact absurd (z1 b hm) hb
      · rw [z2 b hm] at hb ⊢
        exact (ok_init w).fz b hb
    · obtain ⟨us, sp, t, a1, a2, a3⟩ := hok.ow o (List.mem_append_left _ ho) b hb
      exact ⟨us, sp, t, a1, a2.mono hle, a3⟩
  have hat : ∀ b room cs, (⟨some b, room, cs⟩ : Ob) ∈ V → ∃ vs, RepL G cs vs ∧ vs.length ≤ room ∧ At G1 b 0 vs ∧ (cs ≠ [] → G1.U b) := by
    intro b room cs hm
    obtain ⟨us, a1, a2, a3, a4⟩ := own_at hok (List.mem_append_right _ hm)
    refine ⟨us, a1, a2, ?_, fun hne => ⟨notW _ hm b rfl, a4 hne⟩⟩
    unfold At at a3 ⊢
    rw [z2 b (notW _ hm b rfl)]; exact a3
  refine (hc G1 w vs hok1 (vwgL_rep hle hat _ _ _ hv hl)).mono ?_
  rintro e w' ⟨v, r, M', G', rfl, hr, ho, hR⟩
  obtain ⟨l1, l2⟩ := hx _ _ hR
  refine ⟨v, r, M' ++ V, G, rfl, loose_rep _ _ l1 hr, ?_, M', hR, rfl⟩
  have hh : ∀ k, k < w.heap.size → k ∉ keys W → w'.heap[k]? = w.heap[k]? := fun k hk hn => ho.fr k hk hn
  have zW : ∀ b, G.Z b ≠ [] → b ∉ keys W := by
    intro b hb hm
    obtain ⟨o, ho, hob⟩ := mem_keys.1 hm
    exact hb (hok.un o (List.mem_append_left _ ho) b hob)
  refine ⟨Gh.le_refl _, ho.os, ho.tape, ho.output, ho.size, fun k hk hn => ?_, fun b hb => ?_, fun o hm b hb => ?_, fun o hm hb => ?_, fun o hm b hb => ?_, fun o hm b hb => ?_, ?_, fun b ks e => ?_, fun b hu => ?_, fun b t e => ?_⟩
  · exact hh k hk (fun h => hn (by show k ∈ keys (W ++ V); rw [keys_app]; exact List.mem_append_left _ h))
  · rw [hh b (hok.zlt hb) (zW b hb)]; exact hok.fz b hb
  · rcases List.mem_append.1 hm with h | h
    · obtain ⟨us, sp, t, a1, a2, a3⟩ := ho.ow o h b hb
      exact ⟨us, sp, t, a1, looseL_rep _ _ (l2 o h) a2, a3⟩
    · rw [hh b (hok.lt (List.mem_append_right _ h) hb) (notW o h b hb)]; exact hok.ow o (List.mem_append_right _ h) b hb
  · rcases List.mem_append.1 hm with h | h
    · exact ho.vn o h hb
    · exact hok.vn o (List.mem_append_right _ h) hb
  · rcases List.mem_append.1 hm with h | h
    · rcases ho.kb o h b hb with h2 | h2
      · obtain ⟨o2, ho2, hob2⟩ := mem_keys.1 h2
        exact hok.un o2 (List.mem_append_left _ ho2) b hob2
      · apply Classical.byContradiction
        intro hz
        exact absurd (hok.zlt hz) (Nat.not_lt.2 h2)
    · exact hok.un o (List.mem_append_right _ h) b hb
  · rcases List.mem_append.1 hm with h | h
    · rcases ho.kb o h b hb with h2 | h2
      · exact .inl (by show b ∈ keys (W ++ V); rw [keys_app]; exact List.mem_append_left _ h2)
      · exact .inr h2
    · exact .inl (by show b ∈ keys (W ++ V); rw [keys_app]; exact List.mem_append_right _ (mem_keys.2 ⟨o, h, hb⟩))
  · rw [List.filterMap_append, List.nodup_append]
    refine ⟨ho.nd, ndV, fun a ha b hb e => ?_⟩
    subst e
    obtain ⟨o, h, hob⟩ := List.mem_filterMap.1 ha
    obtain ⟨o2, h2, hob2⟩ := List.mem_filterMap.1 hb
    rcases ho.kb o h a hob with h3 | h3
    · exact notW o2 h2 a hob2 h3
    · exact absurd (hok.lt (List.mem_append_right _ h2) hob2) (Nat.not_lt.2 h3)
  · have hn : b ∉ keys W := fun hm => by
      obtain ⟨o, ho, hob⟩ := mem_keys.1 hm
      obtain ⟨us, sp, t, a1, _⟩ := hok.ow o (List.mem_append_left _ ho) b hob
      obtain ⟨es, c, a2, _⟩ := (hok.mz b ks e).1
      rw [a1] at a2; cases a2
    rw [hh b (hok.ylt e) hn]; exact hok.mz b ks e
  · have h1 := (hok.um b hu).1
    rw [hh b (hok.zlt h1) (zW b h1)]; exact hok.um b hu
  · exact ho.wt b t (ho.g.2.2.2 b t (hle.2.2.2 b t e))
/-- The objects in another order. -/
theorem acalls_perm {P : Program} {f : FuncId} {aS : List A} {M M2 : List Ob} {R R' : A → List Ob → Prop} (hp : M2.Perm M) (hc : ACalls P f aS M R) (hR : ∀ r M', R r M' → ∃ M'', M'.Perm M'' ∧ R' r M'') : ACalls P f aS M2 R' := by
  intro G w vs hok hl
  have hk : ∀ k, k ∈ keys M2 ↔ k ∈ keys M := fun k => (hp.filterMap _).mem_iff
  refine (hc G w vs ?_ hl).mono ?_
  · have h := ok_perm hp hok
    exact ⟨h.g, h.os, h.tape, h.output, h.size, fun k h1 h2 => h.fr k h1 (fun h3 => h2 ((hk k).1 h3)), h.fz, h.ow, h.vn, h.un, fun o ho b hb => (h.kb o ho b hb).imp (hk b).1 id, h.nd, h.mz, h.um, h.wt⟩
  · rintro e w' ⟨v, r, M', G', rfl, hr, h, h2⟩
    obtain ⟨M'', p, h3⟩ := hR _ _ h2
    refine ⟨v, r, M'', G', rfl, hr, ok_perm p ?_, h3⟩
    exact ⟨h.g, h.os, h.tape, h.output, h.size, fun k h1 h2 => h.fr k h1 (fun h3 => h2 ((hk k).2 h3)), h.fz, h.ow, h.vn, h.un, fun o ho b hb => (h.kb o ho b hb).imp (hk b).2 id, h.nd, h.mz, h.um, h.wt⟩
/-- What is told of some temporaries, V's objects told as frozen ones. -/
def VwE (V : List Ob) (E : Env) : Env → Prop
  | [] => True
  | (t, x) :: r => Vw V (get E t) x ∧ VwE V E r
theorem VwE.get {V : List Ob} {E : Env} : ∀ {E' : Env}, VwE V E E' → ∀ t, Ab.get E' t = .any ∨ Vw V (Ab.get E t) (Ab.get E' t)
  | [], _, t => .inl rfl
  | (s, x) :: r, ⟨h1, h2⟩, t => by
    simp only [Ab.get]
    cases hb : Nat.beq s t with
    | true =>
      obtain rfl := Nat.eq_of_beq_eq_true hb
      exact .inr h1
    | false => exact VwE.get h2 t
section
variable {P : Program} {T : List TI} {N : Nat} {ops : Array Oper} {rest : List Oper} {o : Oper} {Q : Exit → St → Prop} {E F : Env} {M : List Ob}
theorem inv_freezeV {K : Ctx} {G : Gh} {a : Act} {w : World} {V : List Ob} {E' : Env} (hi : Inv K N G ⟨E, V ++ M⟩ a w) (hE : VwE V E E') : ∃ G', Inv K N G' ⟨E', M⟩ a w := by
  classical
  have hok := hi.ok
  have hnd := hok.nd
  rw [List.filterMap_append, List.nodup_append] at hnd
  obtain ⟨ndV, ndM, dis⟩ := hnd
  let G1 : Gh := ⟨fun b => if b ∈ keys V then (G0 w).Z b else G.Z b, G.Y, fun b => G.U b ∨ b ∈ keys V ∧ (G0 w).U b, G.W⟩
  have z1 : ∀ b, b ∈ keys V → G1.Z b = (G0 w).Z b := fun b h => if_pos h
  have z2 : ∀ b, b ∉ keys V → G1.Z b = G.Z b := fun b h => if_neg h
  have hle : G.le G1 := by
    refine ⟨fun b => ?_, fun b ks e => e, fun b h => .inl h, fun b t h => h⟩
    by_cases hb : b ∈ keys V
    · rw [z1 b hb]; exact (g_le_G0 hok).1 b
    · rw [z2 b hb]; exact List.prefix_refl _
  have hat : ∀ b room cs, (⟨some b, room, cs⟩ : Ob) ∈ V → ∃ vs, RepL G cs vs ∧ vs.length ≤ room ∧ At G1 b 0 vs ∧ (cs ≠ [] → G1.U b) := by
    intro b room cs hm
    obtain ⟨us, a1, a2, a3, a4⟩ := own_at hok (List.mem_append_left _ hm)
    refine ⟨us, a1, a2, ?_, fun hne => .inr ⟨mem_keys.2 ⟨_, hm, rfl⟩, a4 hne⟩⟩
    unfold At at a3 ⊢
    rw [z1 b (mem_keys.2 ⟨_, hm, rfl⟩)]; exact a3
  refine ⟨G1, ⟨Gh.le_trans hok.g hle, hok.os, hok.tape, hok.output, hok.size, hok.fr, fun b hb => ?_, fun o ho b hb => ?_, fun o ho => hok.vn o (List.mem_append_right _ ho), fun o ho b hb => ?_, fun o ho => hok.kb o (List.mem_append_right _ ho), ndM, hok.mz, fun b hb => ?_, hok.wt⟩, hi.sz, hi.df, fun t => ?_⟩
  · by_cases hm : b ∈ keys V
    · rw [z1 b hm] at hb ⊢; exact (ok_init w).fz b hb
    · rw [z2 b hm] at hb ⊢; exact hok.fz b hb
  · obtain ⟨us, sp, t, a1, a2, a3⟩ := hok.ow o (List.mem_append_right _ ho) b hb
    exact ⟨us, sp, t, a1, a2.mono hle, a3⟩
  · have hn : b ∉ keys V := fun h => dis b h b (List.mem_filterMap.2 ⟨o, ho, hb⟩) rfl
    rw [z2 b hn]; exact hok.un o (List.mem_append_right _ ho) b hb
  · rcases hb with hb | ⟨hb, c, t, h1, h2⟩
    · obtain ⟨h1, h2⟩ := hok.um b hb
      refine ⟨fun e => h1 ?_, h2⟩
      have := hle.1 b
      rw [e] at this
      exact List.prefix_nil.1 this
    · refine ⟨?_, c, t, h1⟩
      rw [z1 b hb]
      simp only [G0, h1]
      exact h2
  · rcases hE.get t with h | h
    · rw [h]; trivial
    · exact vwg_rep hle hat _ _ _ h (hi.ev t)
/-- All the objects of V are frozen from now on. -/
theorem acode_freezeV {c : Code} (V : List Ob) (E' : Env) (hE : VwE V E E') (next : ACode P N c Q ⟨E', M⟩) : ACode P N c Q ⟨E, V ++ M⟩ :=
  acode_weaken (fun K G a w hi => inv_freezeV hi hE) next
theorem aops_freezeV {l : List Oper} (V : List Ob) (E' : Env) (hE : VwE V E E') (next : AOps P N ops l Q ⟨E', M⟩) : AOps P N ops l Q ⟨E, V ++ M⟩ :=
  aops_weaken (fun K G a w hi => inv_freezeV hi hE) next
end
end Go.Proofs.Ytbnhmioijeagiaa.Ab
/- Maps that say yes to rows of numbers: held against a row. No condition. -/
set_option linter.unusedVariables false
set_option linter.unusedSimpArgs false
namespace Go.Proofs.Ytbnhmioijeagiaa.Ab
section
variable {P : Program} {T : List TI} {N : Nat} {ops : Array Oper} {rest : List Oper} {o : Oper} {Q : Exit → St → Prop} {E F : Env} {M : List Ob}
theorem run_eqInts (w : World) (d : Nat) (t e : TypeId) (n : Nat) (k : IntKind) (ht : P.underlying t = some (.array n e)) (he : P.underlying e = some (.int k)) (hsz : ∀ w, (sizeOf e).run P w = .ok 1 w) (xs ys : List Int) (hx : xs.length = n) (hy : ys.length = n) :
    (Op.equalIn (d + 2) t (.agg (xs.map (Value.int k)).toArray) (.agg (ys.map (Value.int k)).toArray)).run P w = .ok (decide (xs = ys)) w := by
  have hd : decide (xs = ys) = decide (∀ i ∈ List.range' 0 n 1, xs.getD i 0 = ys.getD i 0) := by
    congr 1
    rw [eq_iff_iff]
    constructor
    · rintro rfl i _; rfl
    · intro h
      refine List.ext_getElem (by omega) fun i h1 h2 => ?_
      have := h i (by rw [List.mem_range'_1]; omega)
      simpa [List.getD, List.getElem?_eq_getElem h1, List.getElem?_eq_getElem h2] using this
  rw [hd, Op.equalIn]
  simp only [Sem.run_bind, run_underlying ht, Result.andThen_ok, hsz, Std.Legacy.Range.forIn_eq_forIn_range', Std.Legacy.Range.size, Nat.sub_zero, Nat.add_sub_cancel, Nat.div_one]
  have hl : ∀ i ∈ List.range' 0 n 1, i < n := fun i hi => by simpa using (List.mem_range'_1.1 hi).2
  generalize List.range' 0 n 1 = l at hl ⊢
  induction l with
  | nil => simp
  | cons i l ih =>
    have hi : i < n := hl i (by simp)
    have px : ∀ zs : List Int, zs.length = n → (part e (zs.map (Value.int k)).toArray (i * 1)).run P w = .ok (Value.int k (zs.getD i 0)) w := fun zs hz => by
      simp [part, isAgg, run_underlying he, List.getD, List.getElem?_eq_getElem (show i < zs.length by omega)]
    have pe : (Op.equalIn (d + 1) e (Value.int k (xs.getD i 0)) (Value.int k (ys.getD i 0))).run P w = .ok (decide (xs.getD i 0 = ys.getD i 0)) w := by
      rw [run_equalIn_int w d e k k _ _ he]
      simp
      rfl
    simp only [List.forIn_cons, Sem.run_bind, px xs hx, px ys hy, pe, Result.andThen_ok]
    by_cases h : xs.getD i 0 = ys.getD i 0
    · simp only [h, decide_true, Bool.not_true, Bool.false_eq_true, if_false, Sem.run_pure, List.mem_cons, forall_eq_or_imp, true_and]
      exact ih fun j hj => hl j (by simp [hj])
    · have : ¬ ∀ j ∈ i :: l, xs.getD j 0 = ys.getD j 0 := fun hh => h (hh i (by simp))
      simp only [h, decide_false, Bool.not_false, if_true, Sem.run_pure, Result.andThen_ok, this]
theorem run_checkInts (w : World) (em : Bool) (m : Nat) (t e : TypeId) (n : Nat) (k : IntKind) (ht : P.underlying t = some (.array n e)) (he : P.underlying e = some (.int k)) (hsz : ∀ w, (sizeOf e).run P w = .ok 1 w) (xs : List Int) (hx : xs.length = n) :
    (Instr.checkKey em (m + 2) t (.agg (xs.map (Value.int k)).toArray)).run P w = .ok () w := by
  rw [Instr.checkKey]
  simp only [Sem.run_bind, run_underlying ht, Result.andThen_ok, hsz, Std.Legacy.Range.forIn_eq_forIn_range', Std.Legacy.Range.size, Nat.sub_zero, Nat.add_sub_cancel, Nat.div_one]
  have hl : ∀ i ∈ List.range' 0 n 1, i < n := fun i hi => by simpa using (List.mem_range'_1.1 hi).2
  generalize List.range' 0 n 1 = l at hl ⊢
  induction l with
  | nil => simp
  | cons i l ih =>
    have hi : i < n := hl i (by simp)
    have px : (part e (xs.map (Value.int k)).toArray (i * 1)).run P w = .ok (Value.int k (xs.getD i 0)) w := by
      simp [part, isAgg, run_underlying he, List.getD, List.getElem?_eq_getElem (show i < xs.length by omega)]
    have pc : (Instr.checkKey em (m + 1) e (Value.int k (xs.getD i 0))).run P w = .ok () w := by
      simp [Instr.checkKey, run_underlying he]
    simp only [List.forIn_cons, Sem.run_bind, hsz, px, pc, Result.andThen_ok, Sem.run_pure] at ih ⊢
    exact ih fun j hj => hl j (by simp [hj])

theorem keyView_keyV (k : List Int) : keyView (keyV k) = some k := by
  simp only [keyView, keyV]
  induction k with
  | nil => rfl
  | cons x k ih =>
    simp only [List.map_cons, List.mapM_cons, intView]
    rw [ih]; rfl
theorem keyView_inv {v : Value} {k : List Int} (h : keyView v = some k) : v = keyV k := by
  cases v with
  | agg cs =>
    simp only [keyView] at h
    have : ∀ (l : List Value) (k : List Int), l.mapM intView = some k → l = k.map (Value.int .i64) := by
      intro l
      induction l with
      | nil => intro k hk; simp at hk; subst hk; rfl
      | cons v l ih =>
        intro k hk
        simp only [List.mapM_cons] at hk
        cases hv : intView v with
        | none => simp [hv] at hk
        | some x =>
          cases hl : l.mapM intView with
          | none => simp [hv, hl] at hk
          | some ks =>
            simp [hv, hl] at hk
            subst hk
            have : v = .int .i64 x := by
              unfold intView at hv
              split at hv
              · simp at hv; subst hv; rfl
              · cases hv
            rw [this, ih ks hl]; rfl
    have := this _ _ h
    unfold keyV
    rw [← this]
  | _ => simp [keyView] at h
structure KeyT (P : Program) (kt : Nat) (n : Nat) : Prop where
  e : ∃ e, P.underlying kt = some (.array n e) ∧ P.underlying e = some (.int .i64) ∧ ∀ w, (sizeOf e).run P w = .ok 1 w
theorem run_askInts (w : World) {kt n : Nat} (hk : KeyT P kt n) (k : List Int) (hl : k.length = n) : ∀ (es : List MapEntry) (ks : List (List Int)) (i : Nat), mapView es = some ks → (∀ x ∈ ks, x.length = n) →
    (k ∈ ks ∧ ∃ j e, (Instr.findAsking kt (keyV k) es i).run P w = .ok (some (i + j, .bool true)) w ∧ es[j]? = some e ∧ e.key = keyV k) ∨ (k ∉ ks ∧ (Instr.findAsking kt (keyV k) es i).run P w = .ok none w)
  | [], ks, i, h, _ => by
    simp only [mapView, Option.some.injEq] at h
    subst h
    exact .inr ⟨by simp, by simp [Instr.findAsking]⟩
  | e :: es, ks, i, h, hn => by
    obtain ⟨et, h1, h2, h3⟩ := hk.e
    simp only [mapView] at h
    split at h
    · rename_i k1 hv hb
      cases hm : mapView es with
      | none => simp [hm] at h
      | some ks' =>
        simp only [hm, Option.map_some, Option.some.injEq] at h
        subst h
        have ek := keyView_inv hv
        have eq : (Op.equal kt (keyV k) e.key).run P w = .ok (decide (k = k1)) w := by
          rw [ek]
          exact run_eqInts w 9998 kt et n .i64 h1 h2 h3 k k1 hl (hn k1 (by simp))
        by_cases hkk : k = k1
        · refine .inl ⟨by simp [hkk], 0, e, ?_, rfl, by rw [ek, hkk]⟩
          subst hkk
          simp [Instr.findAsking, eq, hb]
        · rcases run_askInts w hk k hl es ks' (i + 1) hm (fun x hx => hn x (by simp [hx])) with ⟨a1, j, e', a2, a3, a4⟩ | ⟨a1, a2⟩
          · exact .inl ⟨by simp [a1], j + 1, e', by simp [Instr.findAsking, eq, hkk, a2, Nat.add_assoc, Nat.add_comm 1 j], by simpa using a3, a4⟩
          · exact .inr ⟨by simp [hkk, a1], by simp [Instr.findAsking, eq, hkk, a2]⟩
    · cases h
theorem und_map {t k e : Nat} {i : TI} (h : TG P t i) (hk : i.k = .map k e) : P.underlying t = some (.map k e) := by
  obtain ⟨d, h1, h2⟩ := h.und
  rw [hk] at h2
  cases d <;> simp [tkOf] at h2
  rw [h1, h2.1, h2.2]
/-- What the table says of a map's type: from rows of n numbers to truth values. -/
def mapT (T : List TI) (t n : Nat) : Bool := match kindOf T t with
  | some (.map k e) => (match kindOf T k with
    | some (.array m x) => Nat.beq m n && (match known T x with | some ⟨.int .i64, 1, _, _⟩ => true | _ => false)
    | _ => false) && (match known T e with | some ⟨.bool, _, _, [.bool false]⟩ => true | _ => false)
  | _ => false
theorem mapT_spec (hT : TOk P T) {t n : Nat} (h : mapT T t n = true) : ∃ k e, P.underlying t = some (.map k e) ∧ KeyT P k n ∧ (∀ w, (zeroValue e).run P w = .ok (.bool false) w) ∧ ∃ x, P.underlying k = some (.array n x) := by
  unfold mapT at h
  split at h
  · rename_i k e hk
    rw [Bool.and_eq_true] at h
    obtain ⟨ha, hb⟩ := h
    split at ha
    · rename_i m x hkm
      rw [Bool.and_eq_true] at ha
      obtain ⟨h1, h2⟩ := ha
      obtain rfl := Nat.eq_of_beq_eq_true h1
      split at h2
      · rename_i bb zz hx
        split at hb
        · rename_i s1 b1 he
          obtain ⟨ti, hti, hkk⟩ := Option.map_eq_some_iff.1 hk
          obtain ⟨k1, k2⟩ := known_spec hti
          obtain ⟨tj, htj, hkj⟩ := Option.map_eq_some_iff.1 hkm
          obtain ⟨k3, k4⟩ := known_spec htj
          obtain ⟨k5, k6⟩ := known_spec hx
          obtain ⟨k7, k8⟩ := known_spec he
          have hu := und_map (hT.get k1 k2) hkk
          have ha : P.underlying k = some (.array m x) := by
            obtain ⟨d, d1, d2⟩ := (hT.get k3 k4).und
            rw [hkj] at d2
            cases d <;> simp [tkOf] at d2
            rw [d1, d2.1, d2.2]
          refine ⟨k, e, hu, ⟨x, ha, und_int (hT.get k5 k6) rfl, fun w => run_size (hT.get k5 k6)⟩, fun w => ?_, x, ha⟩
          obtain ⟨info, z, i1, i2, i3, i4, i5, i6, i7⟩ := (hT.get k7 k8).info
          obtain ⟨v, v1, v2⟩ := i7 rfl
          simp at v1
          subst v1; subst v2
          obtain ⟨z', z1, z2⟩ := run_zero (P := P) (w := w) (hT.get k7 k8)
          have : (zeroValue e).run P w = .ok (.bool false) w := by
            simp [zeroValue, run_info i1, i4]
          exact this
        · cases hb
      · cases h2
    · cases ha
  · cases h
theorem ints_value {G : Gh} : ∀ {l : List Int} {vs : List Value}, RepL G (ints l) vs → vs = l.map (Value.int .i64)
  | [], _, h => h
  | x :: l, _, h => by
    obtain ⟨v, vs', rfl, h1, h2⟩ := h
    simp only [Rep] at h1
    rw [h1, ints_value h2]; rfl
theorem look_run (hT : TOk P T) {t n : Nat} (ht : mapT T t n = true) {w : World} {b : Nat} {es : Array MapEntry} {c : Nat} (hb : w.heap[b]? = some (.map es c)) {ks : List (List Int)} (hv : mapView es.toList = some ks) (hn : ∀ x ∈ ks, x.length = n) (k : List Int) (hk : k.length = n) :
    (Instr.lookup t (.map (some b)) (keyV k) false).run P w = .ok (.bool (decide (k ∈ ks))) w := by
  obtain ⟨kt, et, h1, h2, h3, x, h4⟩ := mapT_spec hT ht
  obtain ⟨e, h5, h6, h7⟩ := id h2.e
  have hc := run_checkInts (P := P) w es.isEmpty 9998 kt e n .i64 h5 h6 h7 k hk
  have hf := run_findKey_eq (P := P) w (k := kt) (by rw [h4]) (keyV k) es.toList
  unfold Instr.lookup
  rcases run_askInts w h2 k hk es.toList ks 0 hv hn with ⟨a1, j, e', a2, a3, a4⟩ | ⟨a1, a2⟩
  · simp only [Sem.run_bind, run_underlying h1, Result.andThen_ok, MapKept.run_getObj_map hb, Sem.run_pure]
    rw [show (Instr.checkKey es.isEmpty 10000 kt (keyV k)).run P w = .ok () w from hc]
    simp only [Result.andThen_ok, hf, a2, Sem.run_pure, a1, decide_true]
    rfl
  · simp only [Sem.run_bind, run_underlying h1, Result.andThen_ok, MapKept.run_getObj_map hb, Sem.run_pure]
    rw [show (Instr.checkKey es.isEmpty 10000 kt (keyV k)).run P w = .ok () w from hc]
    simp only [Result.andThen_ok, hf, a2, Sem.run_pure, Sem.run_bind, h3, a1, decide_false]
    rfl
/-- A row of numbers held against a frozen map. -/
theorem aops_look (hT : TOk P T) {t n d : Nat} {x ix : Operand} {ks : List (List Int)} {k : List Int} (ho : o.op = .lookup t x ix false) (ht : mapT T t n = true) (hx : opA E x = .mp ks) (hix : opA E ix = .agg (ints k)) (hn : ∀ x ∈ ks, x.length = n) (hk : k.length = n)
    (hg : guardOn ops o E = some true) (hd : o.dst = some d) (hN : Nat.blt d N = true) (next : AOps P N ops rest Q ⟨(d, .bool (decide (k ∈ ks))) :: E, M⟩) : AOps P N ops (o :: rest) Q ⟨E, M⟩ := by
  refine aops_val hg (by rw [hd]; exact hN) (.bool (decide (k ∈ ks))) M (fun K G av w hi => ?_) (by rw [hd]; exact next)
  have hrx := opA_rep hi x
  have hry := opA_rep hi ix
  rw [hx] at hrx; rw [hix] at hry
  obtain ⟨b, ex, hy⟩ := hrx
  obtain ⟨vs, ey, hl⟩ := hry
  have e2 := ints_value hl
  subst e2
  obtain ⟨es, c, m1, m2⟩ := (hi.ok.mz b ks hy).1
  refine ⟨_, w, G, ?_, hi.ok, G.le_refl, rfl⟩
  have := look_run hT ht m1 m2 hn k hk
  simp only [execOp, ho, ex, ey, Sem.run_bind, show (Value.agg (List.map (Value.int IntKind.i64) k).toArray) = keyV k from rfl, this, Result.andThen_ok]
  rfl
theorem yields_look (hT : TOk P T) {t n : Nat} {x ix : Operand} {ks : List (List Int)} {k : List Int} (ho : o.op = .lookup t x ix false) (ht : mapT T t n = true) (hx : opA F x = .mp ks) (hix : opA F ix = .agg (ints k)) (hn : ∀ x ∈ ks, x.length = n) (hk : k.length = n)
    (hg : guardOn ops o F = some true) (hd : dstOk N o.dst = true) : Yields P N ops o (.bool (decide (k ∈ ks))) F M := by
  intro E hE rest Q next
  have hox : ∀ y ∈ o.op.operands, opA E y = opA F y := fun y hy => agree_op hE hy
  rw [ho] at hox
  have hx' : opA E x = .mp ks := by rw [hox x (by simp [Op.operands]), hx]
  have hix' : opA E ix = .agg (ints k) := by rw [hox ix (by simp [Op.operands]), hix]
  refine aops_val (by rw [agree_guard hE]; exact hg) hd (.bool (decide (k ∈ ks))) M (fun K G av w hi => ?_) next
  have hrx := opA_rep hi x
  have hry := opA_rep hi ix
  rw [hx'] at hrx; rw [hix'] at hry
  obtain ⟨b, ex, hy⟩ := hrx
  obtain ⟨vs, ey, hl⟩ := hry
  have e2 := ints_value hl
  subst e2
  obtain ⟨es, c, m1, m2⟩ := (hi.ok.mz b ks hy).1
  refine ⟨_, w, G, ?_, hi.ok, G.le_refl, rfl⟩
  have := look_run hT ht m1 m2 hn k hk
  simp only [execOp, ho, ex, ey, Sem.run_bind, show (Value.agg (List.map (Value.int IntKind.i64) k).toArray) = keyV k from rfl, this, Result.andThen_ok]
  rfl
end
end Go.Proofs.Ytbnhmioijeagiaa.Ab
/- A new map while it is filled: the walk beside it, and its freezing. No condition. -/
set_option linter.unusedVariables false
set_option linter.unusedSimpArgs false
namespace Go.Proofs.Ytbnhmioijeagiaa.Ab
/-- The invariant, and one new map of one's own besides. -/
structure InvM (K : Ctx) (N : Nat) (G : Gh) (st : St) (a : Act) (w : World) (b : Nat) (es : Array MapEntry) (c : Nat) : Prop where
  i : Inv K N G st a w
  m : w.heap[b]? = some (.map es c)
  nw : K.w0.heap.size ≤ b
  y : G.Y b = none
abbrev Pst := Ctx → Exit → Act → World → Prop
def GCode (P : Program) (N : Nat) (c : Code) (R : Pst) (st : St) : Prop := ∀ K G a w, Inv K N G st a w → c.wp P (R K) a w
def GOps (P : Program) (N : Nat) (ops : Array Oper) (l : List Oper) (R : Pst) (st : St) : Prop := ∀ K G a w, Inv K N G st a w → wpList P ops (R K) l a w
def HCode (P : Program) (N : Nat) (c : Code) (R : Pst) (b : Nat) (es : Array MapEntry) (cl : Nat) (st : St) : Prop := ∀ K G a w, InvM K N G st a w b es cl → c.wp P (R K) a w
def HOps (P : Program) (N : Nat) (ops : Array Oper) (l : List Oper) (R : Pst) (b : Nat) (es : Array MapEntry) (cl : Nat) (st : St) : Prop := ∀ K G a w, InvM K N G st a w b es cl → wpList P ops (R K) l a w
section
variable {P : Program} {T : List TI} {N : Nat} {ops : Array Oper} {rest : List Oper} {o : Oper} {Q : Exit → St → Prop} {R : Pst} {E F : Env} {M : List Ob} {st st' : St} {b : Nat} {es : Array MapEntry} {cl : Nat} {x y : Code}
def toR (N : Nat) (Q : Exit → St → Prop) : Pst := fun K => lift K N Q
def thenR (P : Program) (y : Code) (R : Pst) : Pst := fun K => Exit.then (y.wp P (R K)) (R K)
def blockR (id : Nat) (R : Pst) : Pst := fun K => Exit.inBlock id (R K)
theorem acode_of_g (h : GCode P N x (toR N Q) st) : ACode P N x Q st := h
theorem gcode_of_a (h : ACode P N x Q st) : GCode P N x (toR N Q) st := h
theorem aops_of_g {l : List Oper} (h : GOps P N ops l (toR N Q) st) : AOps P N ops l Q st := h
theorem gops_of_a {l : List Oper} (h : AOps P N ops l Q st) : GOps P N ops l (toR N Q) st := h
theorem gcode_seq (h : GCode P N x (thenR P y R) st) : GCode P N (.seq x y) R st := fun K G a w hi => wp_seq (h K G a w hi)
theorem hcode_seq (h : HCode P N x (thenR P y R) b es cl st) : HCode P N (.seq x y) R b es cl st := fun K G a w hi => wp_seq (h K G a w hi)
theorem hcode_block {id : Nat} (h : HCode P N x (blockR id R) b es cl st) : HCode P N (.block id x) R b es cl st := fun K G a w hi => wp_block (h K G a w hi)
theorem gcode_region {id : Nat} {l : List Oper} (h : GOps P N l.toArray l R st) : GCode P N (.region id l.toArray false) R st := fun K G a w hi => wp_region_lit (h K G a w hi)
theorem hcode_region {id : Nat} {l : List Oper} (h : HOps P N l.toArray l R b es cl st) : HCode P N (.region id l.toArray false) R b es cl st := fun K G a w hi => wp_region_lit (h K G a w hi)
theorem gops_end (h : GCode P N y R st) : GOps P N ops [] (thenR P y R) st := fun K G a w hi => wpList_nil (h K G a w hi)
theorem hops_end (h : HCode P N y R b es cl st) : HOps P N ops [] (thenR P y R) b es cl st := fun K G a w hi => wpList_nil (h K G a w hi)
theorem hcode_skip (h : HCode P N y R b es cl st) : HCode P N .skip (thenR P y R) b es cl st := fun K G a w hi => wp_skip (h K G a w hi)
/-- A part that is walked as ever. -/
theorem gcode_a (h : ACode P N x (fun e s => e = .normal ∧ GCode P N y R s) st) : GCode P N x (thenR P y R) st := fun K G a w hi => by
  refine wp_mono (h K G a w hi) ?_
  rintro e a' w' ⟨G', s, ⟨rfl, next⟩, i⟩
  exact next K G' a' w' i
/-- What another walk leaves, beside the map. -/
theorem InvM.back {K : Ctx} {G G' : Gh} {a a' : Act} {w w' : World} (h : InvM K N G st a w b es cl) (h' : Inv ⟨w, keys st.M, G⟩ N G' st' a' w') : InvM K N G' st' a' w' b es cl := by
  have hlt : b < w.heap.size := (Array.getElem?_eq_some_iff.1 h.m).1
  have hn : b ∉ keys st.M := fun hm => by
    obtain ⟨o, ho, hob⟩ := List.mem_filterMap.1 hm
    obtain ⟨us, sp, t, a1, _⟩ := h.i.ok.ow o ho b hob
    rw [h.m] at a1; cases a1
  refine ⟨⟨h.i.ok.back h'.ok, h'.sz, h'.df, h'.ev⟩, by rw [h'.ok.fr b hlt hn]; exact h.m, h.nw, ?_⟩
  cases hy : G'.Y b with
  | none => rfl
  | some ks =>
    have := (h'.ok.mz b ks hy).2 hlt
    rw [h.y] at this; cases this
theorem InvM.enter {K : Ctx} {G : Gh} {a : Act} {w : World} (h : InvM K N G st a w b es cl) : Inv ⟨w, keys st.M, G⟩ N G st a w := ⟨h.i.ok.enter, h.i.sz, h.i.df, h.i.ev⟩
theorem hcode_a (h : ACode P N x (fun e s => e = .normal ∧ HCode P N y R b es cl s) st) : HCode P N x (thenR P y R) b es cl st := fun K G a w hi => by
  refine wp_mono (h _ G a w hi.enter) ?_
  rintro e a' w' ⟨G', s, ⟨rfl, next⟩, i⟩
  exact next K G' a' w' (hi.back i)
theorem wpList_cons_of {Q1 Q2 : Exit → Act → World → Prop} {l : List Oper} {a : Act} {w : World} (h : wpList P ops Q1 [o] a w) (h1 : ∀ a w, Q1 .normal a w → wpList P ops Q2 l a w) (h2 : ∀ e a w, Q1 e a w → e = .normal) : wpList P ops Q2 (o :: l) a w := by
  have hlo : LetsOut Q1 → LetsOut Q2 := fun ⟨a0, w0, h0⟩ => by have := h2 _ _ _ h0; cases this
  simp only [wpList] at h ⊢
  split at h
  · rename_i hw
    rw [if_pos hw]
    rcases h with h | ⟨h3, h4⟩
    · refine .inl ?_
      unfold Oper.wp at h ⊢
      generalize (execOp a.eval o).run P w = r at h ⊢
      cases r with
      | ok n w' =>
        cases n <;> simp only [Oper.upon] at h ⊢ <;> first
          | exact h1 _ _ h
          | exact h
          | (refine Calls.mono h (fun e w'' he => ?_)
             cases e with
             | returned v => exact h1 _ _ he
             | panicked ch => have := h2 _ _ _ he; cases this
             | outgrown => exact hlo he)
          | exact Rows.mono h (fun _ _ he => h1 _ _ he)
      | halt e w' =>
        cases e <;> simp only [Oper.upon] at h ⊢
        have := h2 _ _ _ h; cases this
    · exact .inr ⟨h3, hlo h4⟩
  · rename_i hw
    rw [if_neg hw]
    exact h1 _ _ h
theorem gops_a {l : List Oper} (h : AOps P N ops [o] (fun e s => e = .normal ∧ GOps P N ops l R s) st) : GOps P N ops (o :: l) R st := fun K G a w hi =>
  wpList_cons_of (h K G a w hi) (by rintro a' w' ⟨G', s, ⟨_, next⟩, i⟩; exact next K G' a' w' i) (by rintro e a' w' ⟨G', s, ⟨rfl, _⟩, i⟩; rfl)
theorem hops_a {l : List Oper} (h : AOps P N ops [o] (fun e s => e = .normal ∧ HOps P N ops l R b es cl s) st) : HOps P N ops (o :: l) R b es cl st := fun K G a w hi =>
  wpList_cons_of (h _ G a w hi.enter) (by rintro a' w' ⟨G', s, ⟨_, next⟩, i⟩; exact next K G' a' w' (hi.back i)) (by rintro e a' w' ⟨G', s, ⟨rfl, _⟩, i⟩; rfl)
theorem hcode_cond {t : Tmp} {p : Prop} [Decidable p] (hb : get st.E t = .bool (decide p)) (h1 : p → HCode P N x R b es cl st) (h0 : ¬ p → HCode P N y R b es cl st) : HCode P N (.cond (.tmp t) x y) R b es cl st := fun K G a w hi => by
  have he := hi.i.ev t
  rw [hb] at he
  simp only [Rep] at he
  exact wp_cond_split (t := decide p) he (fun hb => h1 (of_decide_eq_true hb) K G a w hi) (fun hb => h0 (of_decide_eq_false hb) K G a w hi)
theorem hcode_exit {id : Nat} (h : ∀ K G a w, InvM K N G st a w b es cl → R K (.exit id) a w) : HCode P N (.exit id) R b es cl st := fun K G a w hi => wp_exit (h K G a w hi)
theorem hcode_loop {ι : Type} {c : Code} (S : ι → Env) (L : ι → List Ob) (X : ι → Array MapEntry × Nat) (m : ι → Nat) (I : ι → Prop) (i0 : ι) (h0 : I i0) (hE : subE (S i0) E) (hM : M = L i0) (hX : X i0 = (es, cl))
    (round : ∀ i, I i → HCode P N c (fun K => Exit.then (fun a w => ∃ j G E', I j ∧ m j < m i ∧ subE (S j) E' ∧ InvM K N G ⟨E', L j⟩ a w b (X j).1 (X j).2) (R K)) b (X i).1 (X i).2 ⟨S i, L i⟩) : HCode P N (.loop c) R b es cl ⟨E, M⟩ := by
  subst hM
  intro K G a w hi
  have hsub : ∀ {G : Gh} {a : Act} {w : World} {E E' : Env} {M : List Ob} {es cl}, subE E' E → InvM K N G ⟨E, M⟩ a w b es cl → InvM K N G ⟨E', M⟩ a w b es cl := fun h hi => ⟨inv_sub h hi.i, hi.m, hi.nw, hi.y⟩
  refine wp_loop_ghost (fun n a w => ∃ i G, I i ∧ m i = n ∧ InvM K N G ⟨S i, L i⟩ a w b (X i).1 (X i).2) (m i0) ⟨i0, G, h0, rfl, by rw [hX]; exact hsub hE hi⟩ ?_
  rintro n a w ⟨i, G, hI, rfl, hi⟩
  refine wp_mono (round i hI K G a w hi) ?_
  intro e a' w' h
  cases e with
  | normal =>
    obtain ⟨j, G', E', hj, hm, hs, hi'⟩ := h
    exact ⟨m j, hm, j, G', hj, rfl, hsub hs hi'⟩
  | _ => exact h
/-- A new map. -/
theorem gops_make {t d : Nat} (ho : o.op = .makeMap t none) (hg : guardOn ops o E = some true) (hd : o.dst = some d) (hN : Nat.blt d N = true)
    (next : ∀ b, HOps P N ops rest R b #[] 0 ⟨(d, .mr b) :: E, M⟩) : GOps P N ops (o :: rest) R ⟨E, M⟩ := by
  intro K G a w hi
  have hok : Ok K G M (w.alloc (.map #[] 0)) := by
    have k := hi.ok
    have ha : ∀ j, j < w.heap.size → (w.alloc (.map #[] 0)).heap[j]? = w.heap[j]? := (MapKept.heap_alloc w _).2
    refine ⟨k.g, k.os, k.tape, k.output, Nat.le_trans k.size (by simp), fun j h1 h2 => ?_, fun j hz => ?_, fun o ho j hj => ?_, k.vn, k.un, k.kb, k.nd, fun j ks e => ?_, fun j hu => ?_, fun j t' e => ?_⟩
    · rw [ha j (Nat.lt_of_lt_of_le h1 k.size)]; exact k.fr j h1 h2
    · rw [ha j (k.zlt hz)]; exact k.fz j hz
    · rw [ha j (k.lt ho hj)]; exact k.ow o ho j hj
    · rw [ha j (k.ylt e)]; exact k.mz j ks e
    · rw [ha j (k.zlt (k.um j hu).1)]; exact k.um j hu
    · rw [ha j (k.wlt e)]; exact k.wt j t' e
  have hy : G.Y w.heap.size = none := by
    cases hy : G.Y w.heap.size with
    | none => rfl
    | some ks => exact absurd (hi.ok.ylt hy) (Nat.lt_irrefl _)
  have hrun : (execOp a.eval o).run P w = .ok (.value (.map (some w.heap.size))) (w.alloc (.map #[] 0)) := by
    simp [execOp, ho, Instr.makeMap]
  refine wpList_step fun Kn hK => ?_
  have hw : Region.wanted o (yielded ops a.tmps) = true := guard_spec hi hg
  rw [if_pos hw]
  unfold Oper.wp
  rw [hrun]
  simp only [Oper.upon]
  refine hK _ _ (next w.heap.size K G _ _ ⟨?_, (MapKept.heap_alloc w _).1, hi.ok.size, hy⟩)
  have := hi.put (G.le_refl) hok (d := o.dst) (by rw [hd]; exact hN) (x := .mr w.heap.size) (v := .map (some w.heap.size)) rfl
  rw [hd] at this ⊢
  exact this
theorem mapView_push {es : Array MapEntry} {ks : List (List Int)} {k : List Int} {c : Nat} (h : mapView es.toList = some ks) : mapView (es.push ⟨keyV k, .bool true, c⟩).toList = some (ks ++ [k]) := by
  rw [Array.toList_push]
  generalize es.toList = l at h ⊢
  induction l generalizing ks with
  | nil => simp [mapView] at h; subst h; simp [mapView, keyView_keyV]
  | cons e l ih =>
    simp only [mapView, List.cons_append] at h ⊢
    split at h
    · rename_i k1 h1 h2
      cases hm : mapView l with
      | none => simp [hm] at h
      | some ks' =>
        simp only [hm, Option.map_some, Option.some.injEq] at h
        subst h
        simp [ih hm]
    · cases h
theorem mapView_set {k : List Int} : ∀ {l : List MapEntry} {ks : List (List Int)} {j : Nat} {e : MapEntry}, mapView l = some ks → l[j]? = some e → e.key = keyV k → mapView (l.modify j fun e => { e with key := keyV k, val := .bool true }) = some ks
  | [], ks, j, e, h, hj, _ => by simp at hj
  | e0 :: l, ks, j, e, h, hj, he => by
    simp only [mapView] at h
    split at h
    · rename_i k1 h1 h2
      cases hm : mapView l with
      | none => simp [hm] at h
      | some ks' =>
        simp only [hm, Option.map_some, Option.some.injEq] at h
        subst h
        cases j with
        | zero =>
          simp at hj; subst hj
          have : k1 = k := by rw [he, keyView_keyV] at h1; exact (Option.some.inj h1).symm
          simp [mapView, keyView_keyV, hm, this]
        | succ j =>
          simp at hj
          have := mapView_set hm hj he
          simp [mapView, h1, h2, this]
    · cases h
theorem setObj_facts {w : World} {b : Nat} {o o' : Obj} (hb : w.heap[b]? = some o) : ({ w with heap := w.heap.setIfInBounds b o' } : World).heap[b]? = some o' ∧ ∀ k, k ≠ b → ({ w with heap := w.heap.setIfInBounds b o' } : World).heap[k]? = w.heap[k]? := MapKept.heap_set hb
theorem InvM.setm {K : Ctx} {G : Gh} {a : Act} {w : World} (h : InvM K N G st a w b es cl) (es' : Array MapEntry) (cl' : Nat) : InvM K N G st a { w with heap := w.heap.setIfInBounds b (.map es' cl') } b es' cl' := by
  obtain ⟨h1, h2⟩ := setObj_facts (o' := .map es' cl') h.m
  have k := h.i.ok
  have nb : ∀ o ∈ st.M, o.b ≠ some b := fun o ho hob => by
    obtain ⟨us, sp, t, a1, _⟩ := k.ow o ho b hob
    rw [h.m] at a1; cases a1
  refine ⟨⟨⟨k.g, k.os, k.tape, k.output, by simpa using k.size, fun j h3 h4 => ?_, fun j hz => ?_, fun o ho j hj => ?_, k.vn, k.un, k.kb, k.nd, fun j ks e => ?_, fun j hu => ?_, fun j t e => ?_⟩, h.i.sz, h.i.df, h.i.ev⟩, h1, h.nw, h.y⟩
  · rw [h2 j (by have := h.nw; omega)]; exact k.fr j h3 h4
  · rw [h2 j (by rintro rfl; obtain ⟨c, t, f, a1, _⟩ := k.fz j hz; rw [h.m] at a1; cases a1)]; exact k.fz j hz
  · rw [h2 j (by rintro rfl; exact nb o ho hj)]; exact k.ow o ho j hj
  · rw [h2 j (by rintro rfl; rw [h.y] at e; cases e)]; exact k.mz j ks e
  · rw [h2 j (by rintro rfl; obtain ⟨_, c, t, a1⟩ := k.um j hu; rw [h.m] at a1; cases a1)]; exact k.um j hu
  · rw [h2 j (by rintro rfl; obtain ⟨c, f, a1⟩ := k.wt j t e; rw [h.m] at a1; cases a1)]; exact k.wt j t e
theorem sameBits_ints (n : Nat) (k : List Int) : Instr.sameBits (n + 2) (keyV k) (keyV k) = true := by
  simp only [keyV, Instr.sameBits, Bool.and_eq_true, beq_self_eq_true, true_and, List.all_eq_true, List.toList_toArray]
  rintro ⟨u, v⟩ h
  have : u = v ∧ ∃ z, u = Value.int .i64 z := by
    obtain ⟨i, hi⟩ := List.getElem?_of_mem h
    rw [List.getElem?_zip_eq_some] at hi
    obtain ⟨h1, h2⟩ := hi
    rw [h1] at h2
    obtain ⟨z, hz, rfl⟩ := List.mem_map.1 (List.mem_of_getElem? h1)
    exact ⟨Option.some.inj h2, z, rfl⟩
  obtain ⟨rfl, z, rfl⟩ := this
  simp [Instr.sameBits]
/-- A row of numbers is said yes to. -/
theorem hops_upd (hT : TOk P T) {t n : Nat} {xm xk xv : Operand} {ks : List (List Int)} {k : List Int} (ho : o.op = .mapUpdate t xm xk xv) (ht : mapT T t n = true) (hm : opA E xm = .mr b) (hk : opA E xk = .agg (ints k)) (hv : opA E xv = .bool true)
    (hes : mapView es.toList = some ks) (hn : ∀ x ∈ ks, x.length = n) (hkn : k.length = n) (hg : guardOn ops o E = some true) (hd : o.dst = none)
    (next : ∀ es' cl', mapView es'.toList = some (if k ∈ ks then ks else ks ++ [k]) → HOps P N ops rest R b es' cl' ⟨E, M⟩) : HOps P N ops (o :: rest) R b es cl ⟨E, M⟩ := by
  intro K G a w hi
  have r1 := opA_rep hi.i xm
  have r2 := opA_rep hi.i xk
  have r3 := opA_rep hi.i xv
  rw [hm] at r1; rw [hk] at r2; rw [hv] at r3
  simp only [Rep] at r1 r3
  obtain ⟨vs, e2, hl⟩ := r2
  have e3 := ints_value hl
  subst e3
  obtain ⟨kt, et, h1, h2, h3, x, h4⟩ := mapT_spec hT ht
  obtain ⟨e, h5, h6, h7⟩ := id h2.e
  have hc := run_checkInts (P := P) w false 9998 kt e n .i64 h5 h6 h7 k hkn
  have hf := run_findKey_eq (P := P) w (k := kt) (by rw [h4]) (keyV k) es.toList
  have done : ∀ es' cl', (Instr.mapUpdate t (.map (some b)) (keyV k) (.bool true)).run P w = .ok () { w with heap := w.heap.setIfInBounds b (.map es' cl') } → mapView es'.toList = some (if k ∈ ks then ks else ks ++ [k]) → wpList P ops (R K) (o :: rest) a w := by
    intro es' cl' hrun a1
    have hr : (execOp a.eval o).run P w = .ok .skip { w with heap := w.heap.setIfInBounds b (.map es' cl') } := by
      simp only [execOp, ho, r1, e2, r3, Sem.run_bind, show (Value.agg (List.map (Value.int IntKind.i64) k).toArray) = keyV k from rfl, hrun, Result.andThen_ok]
      rfl
    refine wpList_step fun Kn hK => ?_
    have hw : Region.wanted o (yielded ops a.tmps) = true := guard_spec hi.i hg
    rw [if_pos hw]
    unfold Oper.wp
    rw [hr]
    simp only [Oper.upon]
    rw [hd]
    exact hK _ _ (next es' cl' a1 K G a _ (hi.setm es' cl'))
  rcases run_askInts w h2 k hkn es.toList ks 0 hes hn with ⟨a1, j, e', a2, a3, a4⟩ | ⟨a1, a2⟩
  · refine done (es.modify j fun e => { e with key := keyV k, val := .bool true }) cl ?_ ?_
    · unfold Instr.mapUpdate
      simp only [Sem.run_bind, run_underlying h1, Result.andThen_ok, MapKept.run_getObj_map hi.m, Sem.run_pure]
      rw [show (Instr.checkKey false 10000 kt (keyV k)).run P w = .ok () w from hc]
      have ej : es[j]? = some e' := by simpa using a3
      simp only [Result.andThen_ok, hf, a2, Nat.zero_add, ej, Option.map_some, Option.getD_some, a4, Instr.keyThatStays, sameBits_ints 9998 k, if_true, Sem.run_pure, Sem.run_bind, MapKept.run_setObj_map _ hi.m]
    · rw [if_pos a1]
      have ej : es[j]? = some e' := by simpa using a3
      have := mapView_set hes (by simpa using ej) a4
      rw [Array.toList_modify]
      exact this
  · refine done (es.push ⟨keyV k, .bool true, cl⟩) (cl + 1) ?_ (by rw [if_neg a1]; exact mapView_push hes)
    unfold Instr.mapUpdate
    simp only [Sem.run_bind, run_underlying h1, Result.andThen_ok, MapKept.run_getObj_map hi.m, Sem.run_pure]
    rw [show (Instr.checkKey false 10000 kt (keyV k)).run P w = .ok () w from hc]
    simp only [Result.andThen_ok, hf, a2, Sem.run_bind, MapKept.run_setObj_map _ hi.m]
/-- The map is read alone from now on. -/
theorem hcode_freeze {t : Nat} {ks : List (List Int)} (hes : mapView es.toList = some ks) (ht : get E t = .mr b) (next : GCode P N x R ⟨(t, .mp ks) :: E, M⟩) : HCode P N x R b es cl ⟨E, M⟩ := by
  intro K G a w hi
  let G' : Gh := ⟨G.Z, fun j => if j = b then some ks else G.Y j, G.U, G.W⟩
  have yb : G'.Y b = some ks := if_pos rfl
  have yo : ∀ j, j ≠ b → G'.Y j = G.Y j := fun j h => if_neg h
  have hle : G.le G' := ⟨fun _ => List.prefix_refl _, fun j l e => by
    by_cases h : j = b
    · subst h; rw [hi.y] at e; cases e
    · rw [yo j h]; exact e, fun _ h => h, fun _ _ h => h⟩
  have k := hi.i.ok
  refine next K G' a w ⟨⟨Gh.le_trans k.g hle, k.os, k.tape, k.output, k.size, k.fr, k.fz, fun o ho j hj => ?_, k.vn, k.un, k.kb, k.nd, fun j l e => ?_, k.um, k.wt⟩, hi.i.sz, hi.i.df, fun s => ?_⟩
  · obtain ⟨us, sp, t, a1, a2, a3⟩ := k.ow o ho j hj
    exact ⟨us, sp, t, a1, a2.mono hle, a3⟩
  · by_cases h : j = b
    · subst h
      rw [yb] at e; cases e
      exact ⟨⟨es, cl, hi.m, hes⟩, fun hlt => by have := hi.nw; omega⟩
    · rw [yo j h] at e; exact k.mz j l e
  · simp only [get]
    cases hs : Nat.beq t s with
    | true =>
      obtain rfl := Nat.eq_of_beq_eq_true hs
      have := hi.i.ev t
      rw [ht] at this
      exact ⟨b, this, yb⟩
    | false => exact (hi.i.ev s).mono hle _ _
theorem hops_endb {id : Nat} (h : HCode P N y R b es cl st) : HOps P N ops [] (blockR id (thenR P y R)) b es cl st := fun K G a w hi => wpList_nil (h K G a w hi)
theorem hops_fin (h : ∀ K G a w, InvM K N G st a w b es cl → R K .normal a w) : HOps P N ops [] R b es cl st := fun K G a w hi => wpList_nil (h K G a w hi)
/-- Out of a loop in a block, and on behind it. -/
theorem hcode_exit_on {id : Nat} {Z : Ctx → Act → World → Prop} {y' : Code} (h : HCode P N y R b es cl st) : HCode P N (.exit id) (thenR P y' (fun K => Exit.then (Z K) (blockR id (thenR P y R) K))) b es cl st := fun K G a w hi => by
  refine wp_exit ?_
  show (if id = id then _ else _)
  rw [if_pos rfl]
  exact h K G a w hi
/-- The map is nobody's any more. -/
theorem hops_forget {l : List Oper} (next : GOps P N ops l R st) : HOps P N ops l R b es cl st := fun K G a w hi => next K G a w hi.i
end
end Go.Proofs.Ytbnhmioijeagiaa.Ab
/- Chapter 23's set of what is forbidden: the walk. No condition. -/
set_option linter.unusedVariables false
set_option linter.unusedSimpArgs false
namespace Go.Proofs.Ytbnhmioijeagiaa.Ab
attribute [local irreducible] thenA inBlockA ACode AOps put IntKind.wrap

def l3 (f : Int × Int × Int) : List Int := [f.1, f.2.1, f.2.2]
theorem l3_inj {f f' : Int × Int × Int} (h : l3 f = l3 f') : f = f' := by
  obtain ⟨a, b, c⟩ := f; obtain ⟨a', b', c'⟩ := f'
  simp only [l3, List.cons.injEq, and_true] at h
  obtain ⟨rfl, rfl, rfl⟩ := h; rfl
/-- What is forbidden, as a map. -/
def SetOf (l : List (Int × Int × Int)) (ks : List (List Int)) : Prop := (∀ x ∈ ks, x.length = 3) ∧ ∀ f, l3 f ∈ ks ↔ f ∈ l
def setF (l : List (Int × Int × Int)) : List (List Int) := l.foldl (fun ks f => if l3 f ∈ ks then ks else ks ++ [l3 f]) []
theorem setF_add {l : List (Int × Int × Int)} {i : Nat} {f : Int × Int × Int} (h : l[i]? = some f) : setF (l.take (i + 1)) = if l3 f ∈ setF (l.take i) then setF (l.take i) else setF (l.take i) ++ [l3 f] := by
  unfold setF
  rw [List.take_add_one, h, List.foldl_append]; rfl
theorem setF_of (l : List (Int × Int × Int)) : SetOf l (setF l) := by
  suffices h : ∀ (l m : List (Int × Int × Int)) (ks : List (List Int)), SetOf m ks → SetOf (m ++ l) (l.foldl (fun ks f => if l3 f ∈ ks then ks else ks ++ [l3 f]) ks) by
    have := h l [] [] ⟨by simp, by simp⟩
    rw [List.nil_append] at this
    exact this
  intro l
  induction l with
  | nil => intro m ks h; rw [List.append_nil]; exact h
  | cons f l ih =>
    intro m ks h
    have := ih (m ++ [f]) (if l3 f ∈ ks then ks else ks ++ [l3 f]) ?_
    · rw [List.append_assoc] at this; exact this
    · split
      · rename_i hm
        refine ⟨h.1, fun f' => ?_⟩
        rw [h.2]
        simp only [List.mem_append, List.mem_singleton]
        exact ⟨.inl, fun h2 => h2.elim id fun e => by rw [e]; exact (h.2 f).1 hm⟩
      · refine ⟨fun x hx => ?_, fun f' => ?_⟩
        · rcases List.mem_append.1 hx with hx | hx
          · exact h.1 x hx
          · simp only [List.mem_singleton] at hx; subst hx; rfl
        · simp only [List.mem_append, List.mem_singleton, h.2]
          exact ⟨fun h2 => h2.imp id l3_inj, fun h2 => h2.imp id fun e => by rw [e]⟩
theorem f3_at {l : List (Int × Int × Int)} {i : Nat} {x : Int × Int × Int} (h : l[i]? = some x) : f3C x <+: (encs f3C l).drop (i * 3) := encs_at (e := f3C) (s := 3) (fun _ => rfl) h

set_option maxHeartbeats 1000000 in
theorem fset_calls {g : Gr} (hf : g.forbid.length ≤ 9223372036854775807) (M : List Ob) : ACalls Try.prog 50 [grA g] M (fun r M' => r = .mp (setF g.forbid) ∧ M' = M) := by
  refine acalls_of_code 18 Try.func50 rfl rfl rfl ?_
  refine acode_seq ?_
  refine acode_region ?_
  refine aops_boxf rfl rfl rfl rfl rfl rfl rfl ?_
  repeat (refine aops_p tok rfl rfl rfl rfl ?_)
  refine aops_end ?_
  refine acode_of_g (gcode_seq (gcode_region (gops_make rfl rfl rfl rfl fun b => ?_)))
  refine hops_a ?_
  repeat (refine aops_p tok rfl rfl rfl rfl ?_)
  refine aops_nil ⟨rfl, ?_⟩
  refine hops_end ?_
  refine hcode_seq (hcode_seq ?_)
  refine hcode_a ?_
  refine acode_region ?_
  repeat (refine aops_p tok rfl rfl rfl rfl ?_)
  refine aops_nil ⟨rfl, ?_⟩
  refine hcode_block ?_
  refine hcode_loop (ι := Nat × Array MapEntry × Nat) (fun p => [(3, .mr b), (8, .psl g.forbid.length (encs f3C g.forbid)), (9, .int .i64 g.forbid.length), (10, .int .i64 p.1)]) (fun _ => M) (fun p => (p.2.1, p.2.2)) (fun p => g.forbid.length - p.1)
    (fun p => p.1 ≤ g.forbid.length ∧ mapView p.2.1.toList = some (setF (g.forbid.take p.1))) (0, #[], 0) ⟨Nat.zero_le _, rfl⟩ ⟨rfl, rfl, rfl, rfl, trivial⟩ rfl rfl ?_
  rintro ⟨i, es, cl⟩ ⟨hi, hv⟩
  simp only at hi hv ⊢
  refine hcode_seq ?_
  refine hcode_a ?_
  refine acode_region ?_
  repeat (refine aops_p tok rfl rfl rfl rfl ?_)
  refine aops_nil ⟨rfl, ?_⟩
  refine hcode_seq (hcode_cond rfl (fun e => ?_) (fun e => ?_))
  · have hlt : i < g.forbid.length := by omega
    obtain ⟨f, hff⟩ : ∃ f, g.forbid[i]? = some f := ⟨g.forbid[i], List.getElem?_eq_getElem hlt⟩
    refine hcode_skip (hcode_seq (hcode_block (hcode_seq ?_)))
    refine hcode_a ?_
    refine acode_region ?_
    refine aops_ix tok (f3C f) rfl rfl rfl rfl (by omega) (by omega) (by simp [f3C]) (f3_at hff) rfl rfl rfl ?_
    repeat (refine aops_p tok rfl rfl rfl rfl ?_)
    refine aops_alloc tok rfl rfl rfl rfl rfl rfl fun bf => ?_
    refine aops_stn tok rfl rfl rfl rfl rfl rfl rfl rfl rfl ?_
    refine aops_pubref0 5 rfl ?_
    refine aops_nil ⟨rfl, ?_⟩
    refine hcode_region ?_
    refine hops_a ?_
    repeat (refine aops_p tok rfl rfl rfl rfl ?_)
    refine aops_nil ⟨rfl, ?_⟩
    refine hops_a ?_
    repeat (refine aops_p tok rfl rfl rfl rfl ?_)
    refine aops_nil ⟨rfl, ?_⟩
    refine hops_upd tok (k := l3 f) rfl rfl rfl rfl rfl hv (setF_of _).1 rfl rfl rfl fun es' cl' h1 => ?_
    refine hops_endb (hcode_region ?_)
    refine hops_a ?_
    repeat (refine aops_a tok rfl (by omega) (by omega) rfl rfl rfl ?_)
    refine aops_nil ⟨rfl, ?_⟩
    refine hops_a ?_
    repeat (refine aops_p tok rfl rfl rfl rfl ?_)
    refine aops_nil ⟨rfl, ?_⟩
    refine hops_fin fun K G a w hi' => ⟨(i + 1, es', cl'), G, _, ⟨by simp; omega, by rw [h1, setF_add hff]⟩, by simp; omega, ⟨rfl, rfl, rfl, rfl, trivial⟩, hi'⟩
  · have hge : i = g.forbid.length := by omega
    subst hge
    rw [List.take_length] at hv
    refine hcode_exit_on ?_
    refine hcode_freeze (t := 3) hv rfl ?_
    refine gcode_of_a ?_
    repeat (first | refine aops_end ?_ | refine aops_p tok rfl rfl rfl rfl ?_ | refine acode_seq ?_ | refine acode_region ?_)
    refine acode_ret ?_
    skip
    exact ⟨_, ⟨rfl, rfl⟩, resOf_tmp rfl⟩
end Go.Proofs.Ytbnhmioijeagiaa.Ab
/- Objects of one's own frozen, and what others tell of them. No condition. -/
set_option linter.unusedVariables false
set_option linter.unusedSimpArgs false
namespace Go.Proofs.Ytbnhmioijeagiaa.Ab
theorem perm3 {a b c : Ob} {M : List Ob} : (a :: b :: c :: M).Perm (c :: a :: b :: M) := List.perm_middle (l₁ := [a, b])
/-- The same objects, V's told as frozen ones in their cells. -/
inductive VwM (V : List Ob) : List Ob → List Ob → Prop where
  | nil : VwM V [] []
  | same {o : Ob} {M M' : List Ob} (t : VwM V M M') : VwM V (o :: M) (o :: M')
  | cons {b : Option Nat} {room : Nat} {cs ds : List A} {M M' : List Ob} (h : VwL V cs ds) (hn : b = none → ds = []) (t : VwM V M M') : VwM V (⟨b, room, cs⟩ :: M) (⟨b, room, ds⟩ :: M')
theorem VwM.rfl' {V : List Ob} : ∀ (M : List Ob), VwM V M M
  | [] => .nil
  | _ :: M => .same (VwM.rfl' M)
theorem VwM.mem {V : List Ob} : ∀ {M M' : List Ob}, VwM V M M' → ∀ o' ∈ M', ∃ o ∈ M, o.b = o'.b ∧ o.room = o'.room ∧ VwL V o.cs o'.cs ∧ (o.b = none → o'.cs = o.cs ∨ o'.cs = [])
  | _, _, .nil, o', h => by cases h
  | _, _, .same t, o', h => by
    cases h with
    | head => exact ⟨_, List.mem_cons_self .., rfl, rfl, VwL.rfl' _, fun _ => .inl rfl⟩
    | tail _ h => obtain ⟨o, a, b⟩ := t.mem o' h; exact ⟨o, List.mem_cons_of_mem _ a, b⟩
  | _, _, .cons hl hn t, o', h => by
    cases h with
    | head => exact ⟨_, List.mem_cons_self .., rfl, rfl, hl, fun e => .inr (hn e)⟩
    | tail _ h => obtain ⟨o, a, b⟩ := t.mem o' h; exact ⟨o, List.mem_cons_of_mem _ a, b⟩
theorem VwM.keys {V : List Ob} : ∀ {M M' : List Ob}, VwM V M M' → M'.filterMap (·.b) = M.filterMap (·.b)
  | _, _, .nil => rfl
  | _, _, .same t => by simp [List.filterMap_cons, t.keys]
  | _, _, .cons _ _ t => by simp [List.filterMap_cons, t.keys]
section
variable {P : Program} {T : List TI} {N : Nat} {ops : Array Oper} {rest : List Oper} {o : Oper} {Q : Exit → St → Prop} {E F : Env} {M : List Ob}
theorem inv_freezeVM {K : Ctx} {G : Gh} {a : Act} {w : World} {V M' : List Ob} {E' : Env} (hi : Inv K N G ⟨E, V ++ M⟩ a w) (hE : VwE V E E') (hMM : VwM V M M') : ∃ G', Inv K N G' ⟨E', M'⟩ a w := by
  classical
  have hok := hi.ok
  have hnd := hok.nd
  rw [List.filterMap_append, List.nodup_append] at hnd
  obtain ⟨ndV, ndM, dis⟩ := hnd
  let G1 : Gh := ⟨fun b => if b ∈ keys V then (G0 w).Z b else G.Z b, G.Y, fun b => G.U b ∨ b ∈ keys V ∧ (G0 w).U b, G.W⟩
  have z1 : ∀ b, b ∈ keys V → G1.Z b = (G0 w).Z b := fun b h => if_pos h
  have z2 : ∀ b, b ∉ keys V → G1.Z b = G.Z b := fun b h => if_neg h
  have hle : G.le G1 := by
    refine ⟨fun b => ?_, fun b ks e => e, fun b h => .inl h, fun b t h => h⟩
    by_cases hb : b ∈ keys V
    · rw [z1 b hb]; exact (g_le_G0 hok).1 b
    · rw [z2 b hb]; exact List.prefix_refl _
  have hat : ∀ b room cs, (⟨some b, room, cs⟩ : Ob) ∈ V → ∃ vs, RepL G cs vs ∧ vs.length ≤ room ∧ At G1 b 0 vs ∧ (cs ≠ [] → G1.U b) := by
    intro b room cs hm
    obtain ⟨us, a1, a2, a3, a4⟩ := own_at hok (List.mem_append_left _ hm)
    refine ⟨us, a1, a2, ?_, fun hne => .inr ⟨mem_keys.2 ⟨_, hm, rfl⟩, a4 hne⟩⟩
    unfold At at a3 ⊢
    rw [z1 b (mem_keys.2 ⟨_, hm, rfl⟩)]; exact a3
  refine ⟨G1, ⟨Gh.le_trans hok.g hle, hok.os, hok.tape, hok.output, hok.size, hok.fr, fun b hb => ?_, fun o' ho' b hb => ?_, fun o' ho' hb => ?_, fun o' ho' b hb => ?_, fun o' ho' b hb => ?_, by rw [hMM.keys]; exact ndM, hok.mz, fun b hb => ?_, hok.wt⟩, hi.sz, hi.df, fun t => ?_⟩
  · by_cases hm : b ∈ keys V
    · rw [z1 b hm] at hb ⊢; exact (ok_init w).fz b hb
    · rw [z2 b hm] at hb ⊢; exact hok.fz b hb
  · obtain ⟨o, ho, e1, e2, e3, _⟩ := hMM.mem o' ho'
    obtain ⟨us, sp, t, a1, a2, a3⟩ := hok.ow o (List.mem_append_right _ ho) b (e1.trans hb)
    exact ⟨us, sp, t, a1, vwgL_rep hle hat _ _ _ e3 a2, by rw [← e2]; exact a3⟩
  · obtain ⟨o, ho, e1, e2, e3, e4⟩ := hMM.mem o' ho'
    obtain ⟨a1, a2⟩ := hok.vn o (List.mem_append_right _ ho) (e1.trans hb)
    refine ⟨?_, by rw [← e2]; exact a2⟩
    rcases e4 (e1.trans hb) with e | e
    · rw [e, a1]
    · exact e
  · obtain ⟨o, ho, e1, e2, e3, _⟩ := hMM.mem o' ho'
    have hn : b ∉ keys V := fun h => dis b h b (List.mem_filterMap.2 ⟨o, ho, e1.trans hb⟩) rfl
    rw [z2 b hn]; exact hok.un o (List.mem_append_right _ ho) b (e1.trans hb)
  · obtain ⟨o, ho, e1, e2, e3, _⟩ := hMM.mem o' ho'
    exact hok.kb o (List.mem_append_right _ ho) b (e1.trans hb)
  · rcases hb with hb | ⟨hb, c, t, h1, h2⟩
    · obtain ⟨h1, h2⟩ := hok.um b hb
      refine ⟨fun e => h1 ?_, h2⟩
      have := hle.1 b
      rw [e] at this
      exact List.prefix_nil.1 this
    · refine ⟨?_, c, t, h1⟩
      rw [z1 b hb]
      simp only [G0, h1]
      exact h2
  · rcases hE.get t with h | h
    · rw [h]; trivial
    · exact vwgL_rep hle hat [_] [_] [_] (.cons h .nil) ⟨_, _, rfl, hi.ev t, rfl⟩ |>.elim fun v ⟨vs, e, h1, h2⟩ => by
        simp only [List.cons.injEq] at e
        rw [e.1]; exact h1
/-- All the objects of V are frozen from now on, in the others' cells too. -/
theorem acode_freezeVM {c : Code} (V M' : List Ob) (E' : Env) (hE : VwE V E E') (hM : VwM V M M') (next : ACode P N c Q ⟨E', M'⟩) : ACode P N c Q ⟨E, V ++ M⟩ :=
  acode_weaken (fun K G a w hi => inv_freezeVM hi hE hM) next
theorem aops_freezeVM {l : List Oper} (V M' : List Ob) (E' : Env) (hE : VwE V E E') (hM : VwM V M M') (next : AOps P N ops l Q ⟨E', M'⟩) : AOps P N ops l Q ⟨E, V ++ M⟩ :=
  aops_weaken (fun K G a w hi => inv_freezeVM hi hE hM) next
theorem VwL.set {V : List Ob} : ∀ {xs : List A} (i : Nat) {x y : A}, xs[i]? = some x → Vw V x y → VwL V xs (xs.set i y)
  | [], i, x, y, h, _ => by simp at h
  | z :: xs, 0, x, y, h, hv => by simp at h; subst h; exact .cons hv (VwL.rfl' xs)
  | z :: xs, i + 1, x, y, h, hv => .cons (.refl z) (VwL.set i (by simpa using h) hv)
/-- Arguments told with less. -/
theorem acalls_arg {f : FuncId} {xs ys : List A} {R : A → List Ob → Prop} (hv : VwL [] xs ys) (hc : ACalls P f ys M R) : ACalls P f xs M R :=
  fun G w vs hok hl => hc G w vs hok (vwgL_rep G.le_refl (fun _ _ _ h => by cases h) _ _ _ hv hl)
/-- The answer told otherwise: nil slices as empty ones. -/
theorem acalls_res {f : FuncId} {xs : List A} {R R' : A → List Ob → Prop} (hc : ACalls P f xs M R) (hr : ∀ r M', R r M' → ∃ r', Vw [] r r' ∧ R' r' M') : ACalls P f xs M R' :=
  fun G w vs hok hl => (hc G w vs hok hl).mono fun e w' ⟨v, r, M', G', e1, e2, e3, e4⟩ => by
    obtain ⟨r', h1, h2⟩ := hr _ _ e4
    obtain ⟨v', vs', e5, h3, _⟩ := vwgL_rep G'.le_refl (fun _ _ _ h => by cases h) [r] [r'] [v] (.cons h1 .nil) ⟨v, [], rfl, e2, rfl⟩
    simp only [List.cons.injEq] at e5
    exact ⟨v, r', M', G', e1, e5.1 ▸ h3, e3, h2⟩
end
end Go.Proofs.Ytbnhmioijeagiaa.Ab
/- A slice that a field of the front object holds is frozen there. No condition. -/
set_option linter.unusedVariables false
set_option linter.unusedSimpArgs false
namespace Go.Proofs.Ytbnhmioijeagiaa.Ab
attribute [local irreducible] thenA inBlockA ACode AOps put IntKind.wrap

section
variable {P : Program} {N : Nat} {Q : Exit → St → Prop} {E : Env} {M : List Ob}
/-- The second object, a slice that a field of the first one holds, is frozen there (as in Spa7). -/
theorem acode_pubFld {c : Code} (i : Nat) {b room r2 n cap sz : Nat} {ob : Option Nat} {cs ds cs' : List A} (hc : cs[i]? = some (.own ob n cap)) (hr : r2 = cap * sz) (hcs : ds.length = n * sz) (hsz : 0 < sz) (he : cs.set i (.psl n ds) = cs')
    (next : ACode P N c Q ⟨E, ⟨some b, room, cs'⟩ :: M⟩) : ACode P N c Q ⟨E, ⟨some b, room, cs⟩ :: ⟨ob, r2, ds⟩ :: M⟩ := by
  subst he
  refine acode_weaken (st' := ⟨E, ⟨some b, room, cs.set i (.psl n ds)⟩ :: M⟩) (fun K G a w hi => ?_) next
  obtain ⟨G', hle, hok, hb, hn, _⟩ := ok_publish hi.ok (k := 1) rfl
  refine ⟨G', ?_, hi.sz, hi.df, fun s => (hi.ev s).mono hle⟩
  have hok' : Ok K G' (⟨some b, room, cs⟩ :: M) w := hok
  refine hok'.cast (fun o' ho => ?_) (by simpa [List.filterMap_cons] using hok'.nd)
  simp only [List.mem_cons] at ho
  rcases ho with rfl | ho
  · refine .inr ⟨⟨some b, room, cs⟩, List.mem_cons_self .., rfl, rfl, fun vs hv => repL_set_same hv hc (fun v hr' => ?_), fun h => by cases h⟩
    cases ob with
    | none =>
      obtain ⟨hv, rfl, rfl⟩ := hr'
      obtain ⟨rfl, _⟩ := hn rfl
      exact ⟨none, 0, hv, Nat.le_refl _, by simp, [], rfl, .inl rfl⟩
    | some b2 =>
      simp only [Rep] at hr'
      obtain ⟨vs, hl, hat, hle'⟩ := hb b2 rfl
      have hlen := hl.length
      exact ⟨_, cap, hr', Nat.le_of_mul_le_mul_right (show n * sz ≤ cap * sz by omega) hsz, by simp, vs, hl, .inr ⟨b2, 0, rfl, hat⟩⟩
  · exact .inr ⟨o', by simp [ho], rfl, rfl, fun vs hv => hv, fun hb => (hok'.vn o' (by simp [ho]) hb).1⟩
end
end Go.Proofs.Ytbnhmioijeagiaa.Ab
/- Chapter 21: the lister's trees: the walk. No condition. -/
set_option linter.unusedVariables false
set_option linter.unusedSimpArgs false
namespace Go.Proofs.Ytbnhmioijeagiaa.Ab
attribute [local irreducible] thenA inBlockA ACode AOps put IntKind.wrap

abbrev trA (t : Tr) : A := .agg [.int .i64 t.rule, .int .i64 t.tok, .psl t.kids.length (encs trC t.kids)]
theorem trA_eq (t : Tr) : trA t = .agg (trC t) := by rw [trC_eq]
/-- Not too many kids anywhere below. -/
inductive Lim (f : Fo) : Nat → Prop
  | mk {i : Nat} (h : ∀ a ∈ altsOf f i, a.kids.length ≤ 1000000) (hs : ∀ k : Nat, Kid f i k → Lim f k) : Lim f i
theorem Lim.len {f : Fo} {i : Nat} (h : Lim f i) {a : Al} (ha : a ∈ altsOf f i) : a.kids.length ≤ 1000000 := by cases h with | mk h _ => exact h a ha
theorem Lim.kid {f : Fo} {i k : Nat} (h : Lim f i) (hk : Kid f i k) : Lim f k := by cases h with | mk _ h => exact h k hk
theorem leaf_calls {k : Int} (hk : rng k) (M : List Ob) : ACalls Try.prog 89 [.int .i64 k] M (fun r M' => r = trA (leafT k) ∧ M' = M) := by
  obtain ⟨h0, h1⟩ := hk
  refine acalls_res (R := fun r M' => r = .agg [.int .i64 (-1), .int .i64 (-1 - k), .nils] ∧ M' = M) ?_ ?_
  · refine acalls_of_code 6 Try.func89 rfl rfl rfl ?_
    repeat (first | refine acode_seq ?_ | refine acode_region ?_)
    refine aops_alloc tok rfl rfl rfl rfl rfl rfl fun ba => ?_
    repeat (first | refine aops_end ?_ | refine aops_a tok rfl (by omega) (by omega) rfl rfl rfl ?_ | refine aops_p tok rfl rfl rfl rfl ?_ | refine aops_stn tok rfl rfl rfl rfl rfl rfl rfl rfl rfl ?_ | refine acode_seq ?_ | refine acode_region ?_)
    refine acode_pubref0 2 rfl ?_
    refine acode_ret ?_
    skip
    exact ⟨_, ⟨rfl, rfl⟩, resOf_pp tok rfl rfl rfl⟩
  · rintro r M' ⟨rfl, rfl⟩
    exact ⟨_, .agg (.cons (.refl _) (.cons (.refl _) (.cons .nils .nil))), rfl, rfl⟩
noncomputable abbrev liC (f : Fo) : List A := [.psl f.nodes.length (encs ndC f.nodes), .int .i64 f.root, .psl f.nodes.length (ints ((List.range f.nodes.length).map (trees f)))]
end Go.Proofs.Ytbnhmioijeagiaa.Ab
/- Package choose: pointers of picks against nil. No condition. -/
set_option linter.unusedVariables false
set_option linter.unusedSimpArgs false
namespace Go.Proofs.Ytbnhmioijeagiaa.Ab
section
variable {P : Program} {T : List TI} {N : Nat} {ops : Array Oper} {o : Oper} {rest : List Oper} {Q : Exit → St → Prop} {E F : Env} {M : List Ob}
def nilB : A → Option Bool
  | .nilp => some true
  | .pp _ => some false
  | .cp _ => some false
  | _ => none
theorem ptr_nil_run {t e : Nat} (h : P.underlying t = some (.pointer e)) (p : Option Addr) (w : World) : (binOp .eql t (.pointer p) (.pointer none)).run P w = .ok (.bool p.isNone) w := by
  have : ∀ d, (Op.equalIn (d + 1) t (.pointer p) (.pointer none)).run P w = .ok p.isNone w := by
    intro d
    rw [Op.equalIn]
    cases p <;> simp [run_und h]
  have h2 := this 9999
  have e' : Op.maxDepth = 9999 + 1 := rfl
  simp only [binOp, Op.equal, e']
  simp [h2]
theorem ptr_nne_run {t e : Nat} (h : P.underlying t = some (.pointer e)) (p : Option Addr) (w : World) : (binOp .neq t (.pointer p) (.pointer none)).run P w = .ok (.bool (!p.isNone)) w := by
  have : ∀ d, (Op.equalIn (d + 1) t (.pointer p) (.pointer none)).run P w = .ok p.isNone w := by
    intro d
    rw [Op.equalIn]
    cases p <;> simp [run_und h]
  have h2 := this 9999
  have e' : Op.maxDepth = 9999 + 1 := rfl
  simp only [binOp, Op.equal, e']
  simp [h2]
theorem nilB_rep {G : Gh} {x : A} {v : Value} {b : Bool} (h : nilB x = some b) (hr : Rep G x v) : ∃ p, v = .pointer p ∧ p.isNone = b := by
  cases x <;> simp [nilB] at h
  · subst h; simp only [Rep] at hr; exact ⟨none, hr, rfl⟩
  · subst h
    obtain ⟨b, off, vs, e, _⟩ := hr
    exact ⟨_, e, rfl⟩
  · subst h
    obtain ⟨b, off, vs, e, _⟩ := hr
    exact ⟨_, e, rfl⟩
theorem aops_pz (hT : TOk P T) {t t' e d : Nat} {x : Operand} {b : Bool} (ho : o.op = .binOp .eql t x (.const (.pointer none)) t') (ht : kindOf T t = some (.ptr e)) (hx : nilB (opA E x) = some b) (hg : guardOn ops o E = some true) (hd : o.dst = some d) (hN : Nat.blt d N = true)
    (next : AOps P N ops rest Q ⟨(d, .bool b) :: E, M⟩) : AOps P N ops (o :: rest) Q ⟨E, M⟩ := by
  refine aops_val hg (by rw [hd]; exact hN) (.bool b) M (fun K G av w hi => ?_) (by rw [hd]; exact next)
  obtain ⟨p, hv, hp⟩ := nilB_rep hx (opA_rep hi x)
  refine ⟨.bool b, w, G, ?_, hi.ok, G.le_refl, rfl⟩
  have e1 : av.eval (.const (.pointer none)) = .pointer none := rfl
  simp only [execOp, ho, hv, e1, Sem.run_bind, eqGuard_run (P := P) (w := w) (op := .eql) (t := t) (x := x) (y := .const (.pointer none)) (u := .pointer p) (v := .pointer none) (.inr (.inr (.inr ⟨_, rfl⟩))), ptr_nil_run (kindOf_ptr hT ht), Result.andThen_ok, hp]
  rfl
theorem aops_pnz (hT : TOk P T) {t t' e d : Nat} {x : Operand} {b : Bool} (ho : o.op = .binOp .neq t x (.const (.pointer none)) t') (ht : kindOf T t = some (.ptr e)) (hx : nilB (opA E x) = some b) (hg : guardOn ops o E = some true) (hd : o.dst = some d) (hN : Nat.blt d N = true)
    (next : AOps P N ops rest Q ⟨(d, .bool (!b)) :: E, M⟩) : AOps P N ops (o :: rest) Q ⟨E, M⟩ := by
  refine aops_val hg (by rw [hd]; exact hN) (.bool (!b)) M (fun K G av w hi => ?_) (by rw [hd]; exact next)
  obtain ⟨p, hv, hp⟩ := nilB_rep hx (opA_rep hi x)
  refine ⟨.bool (!b), w, G, ?_, hi.ok, G.le_refl, rfl⟩
  have e1 : av.eval (.const (.pointer none)) = .pointer none := rfl
  simp only [execOp, ho, hv, e1, Sem.run_bind, eqGuard_run (P := P) (w := w) (op := .neq) (t := t) (x := x) (y := .const (.pointer none)) (u := .pointer p) (v := .pointer none) (.inr (.inr (.inr ⟨_, rfl⟩))), ptr_nne_run (kindOf_ptr hT ht), Result.andThen_ok, hp]
  rfl
theorem seqT_pz (hT : TOk P T) {l : List Oper} {n : Nat} {t t' e d : Nat} {x : Operand} {b : Bool} (ho : o.op = .binOp .eql t x (.const (.pointer none)) t') (ht : kindOf T t = some (.ptr e)) (hx : nilB (opA F x) = some b) (hg : guardOn ops o F = some true) (hd : o.dst = some d) (hN : Nat.blt d N = true)
    (next : SeqT P N ops Q M ((d, .bool b) :: F) n l) : SeqT P N ops Q M F (n + 1) (o :: l) := by
  refine seqT_y (x := .bool b) (fun E hE rest Q next => ?_) hd next
  refine aops_pz hT ho ht (by rw [agree_op hE (by rw [ho]; simp [Op.operands])]; exact hx) ((agree_guard hE).trans hg) hd hN ?_
  rwa [hd] at next
end
theorem pnil_tk (p : Pk) : nilB (pkA p) = some p.isTk := by cases p <;> rfl
end Go.Proofs.Ytbnhmioijeagiaa.Ab
/- Pointers to frozen variables whose block bears no mark: they are held against each other. No condition. -/
set_option linter.unusedVariables false
set_option linter.unusedSimpArgs false
namespace Go.Proofs.Ytbnhmioijeagiaa.Ab
section
variable {P : Program} {T : List TI} {N : Nat} {ops : Array Oper} {rest : List Oper} {o : Oper} {Q : Exit → St → Prop} {E F : Env} {M : List Ob}
/-- A struct of one's own is frozen, and it is kept that its block bears no mark. -/
theorem inv_publish_cp {K : Ctx} {G : Gh} {a : Act} {w : World} (hi : Inv K N G ⟨E, M⟩ a w) {k t : Nat} {b room : Nat} {cs : List A} (h : get E t = .ref b 0) (hM : M[k]? = some ⟨some b, room, cs⟩) (hne : cs ≠ []) :
    ∃ G', Inv K N G' ⟨(t, .cp cs) :: E, M.eraseIdx k⟩ a w := by
  obtain ⟨G', hle, hok, hb, hn, hU⟩ := ok_publish hi.ok hM
  obtain ⟨vs, hl, hat, hlen⟩ := hb b rfl
  obtain ⟨us, sp, t', hh, _⟩ := hi.ok.ow _ (List.mem_of_getElem? hM) b rfl
  let G2 : Gh := ⟨G'.Z, G'.Y, fun j => j = b ∨ G'.U j, G'.W⟩
  have hle2 : G'.le G2 := ⟨fun _ => List.prefix_refl _, fun _ _ e => e, fun _ e => .inr e, fun _ _ e => e⟩
  have hzb : G'.Z b ≠ [] := by
    intro e
    obtain ⟨u, hu⟩ := hat
    rw [e] at hu
    simp at hu
    have := hl.length
    rw [hu.1] at this
    exact hne (List.eq_nil_of_length_eq_zero (by simpa using this.symm))
  refine ⟨G2, ⟨Gh.le_trans hok.g hle2, hok.os, hok.tape, hok.output, hok.size, hok.fr, hok.fz, fun o ho b' hb' => ?_, hok.vn, hok.un, hok.kb, hok.nd, hok.mz, fun j hj => ?_, hok.wt⟩, hi.sz, hi.df, fun s => ?_⟩
  · obtain ⟨us, sp, t, a1, a2, a3⟩ := hok.ow o ho b' hb'
    exact ⟨us, sp, t, a1, a2.mono hle2, a3⟩
  · rcases hj with rfl | hj
    · exact ⟨hzb, _, t', hh⟩
    · exact hok.um j hj
  · simp only [get]
    by_cases e : t = s
    · subst e
      have hev := hi.ev t
      simp only at hev
      rw [h] at hev
      simp only [Rep] at hev
      have : Nat.beq t t = true := by simp
      rw [this, cond_true]
      exact ⟨b, 0, vs, hev, hat, RepL.mono hle2 _ _ hl, .inl rfl⟩
    · have hb : Nat.beq t s = false := by
        cases hb : Nat.beq t s with
        | false => rfl
        | true => exact absurd (Nat.eq_of_beq_eq_true hb) e
      rw [hb]
      exact (hi.ev s).mono (Gh.le_trans hle hle2)
theorem acode_pubcp0 {c : Code} (t : Nat) {b room : Nat} {cs : List A} (h : get E t = .ref b 0) (hne : cs ≠ []) (next : ACode P N c Q ⟨(t, .cp cs) :: E, M⟩) : ACode P N c Q ⟨E, ⟨some b, room, cs⟩ :: M⟩ :=
  acode_weaken (fun K G a w hi => inv_publish_cp hi h (k := 0) rfl hne) next
theorem aops_pubcp0 {l : List Oper} (t : Nat) {b room : Nat} {cs : List A} (h : get E t = .ref b 0) (hne : cs ≠ []) (next : AOps P N ops l Q ⟨(t, .cp cs) :: E, M⟩) : AOps P N ops l Q ⟨E, ⟨some b, room, cs⟩ :: M⟩ :=
  aops_weaken (fun K G a w hi => inv_publish_cp hi h (k := 0) rfl hne) next
/-- The same cells may lie at both. -/
def SameC (xs ys : List A) : Prop := ∃ (G : Gh) (vs : List Value), RepL G xs vs ∧ RepL G ys vs
/-- Two such pointers are held against each other: where they are one, the same cells are told of. -/
theorem peq_run {K : Ctx} {G : Gh} {w : World} {t e : Nat} {ei : TypeInfo} {xs ys : List A} {u v : Value} (hok : Ok K G M w) (hu : P.underlying t = some (.pointer e)) (he : P.info? e = some ei) (hsz : ei.size ≠ 0) (hl : xs.length = ys.length) (hx : Rep G (.cp xs) u) (hy : Rep G (.cp ys) v) :
    ∃ b, (binOp .eql t u v).run P w = .ok (.bool b) w ∧ (b = true → SameC xs ys) := by
  simp only [Rep] at hx hy
  obtain ⟨b, off, vs, rfl, ha, h1, h2⟩ := hx
  obtain ⟨c, off', vs', rfl, ha', h1', h2'⟩ := hy
  by_cases hne : (⟨b, off, none⟩ : Addr) = ⟨c, off', none⟩
  · simp only [Addr.mk.injEq, and_true] at hne
    obtain ⟨rfl, rfl⟩ := hne
    refine ⟨true, run_eql_ptr_same w _ hu he, fun _ => ⟨G, vs, h1, ?_⟩⟩
    have : vs = vs' := by
      have e1 := h1.length
      have e2 := h1'.length
      exact List.IsPrefix.eq_of_length (List.prefix_of_prefix_length_le ha ha' (by omega)) (by omega)
    rw [this]; exact h1'
  · obtain ⟨_, c1, t1, e1⟩ := hok.um b h2
    obtain ⟨_, c2, t2, e2⟩ := hok.um c h2'
    exact ⟨false, run_eql_ptr_other w hu he hsz hne e1 e2, fun h => by cases h⟩
theorem aops_peq (hT : TOk P T) {t t' e d : Nat} {ei : TI} {x y : Operand} {xs ys : List A} (ho : o.op = .binOp .eql t x y t') (ht : kindOf T t = some (.ptr e)) (he : known T e = some ei) (hsz : Nat.blt 0 ei.size = true) (hx : opA E x = .cp xs) (hy : opA E y = .cp ys) (hl : xs.length = ys.length)
    (hg : guardOn ops o E = some true) (hd : o.dst = some d) (hN : Nat.blt d N = true) (next : ∀ b, (b = true → SameC xs ys) → AOps P N ops rest Q ⟨(d, .bool b) :: E, M⟩) : AOps P N ops (o :: rest) Q ⟨E, M⟩ := by
  refine aops_rel hg (by rw [hd]; exact hN) (fun y L => ∃ b, y = .bool b ∧ (b = true → SameC xs ys) ∧ L = M) (fun K G av w hi => ?_) ?_
  · have hrx := opA_rep hi x
    have hry := opA_rep hi y
    rw [hx] at hrx; rw [hy] at hry
    obtain ⟨k1, k2⟩ := known_spec he
    obtain ⟨info, z, hi1, hi2, _⟩ := (hT.get k1 k2).info
    have hsz : 0 < ei.size := by simpa using hsz
    obtain ⟨b, hrun, hb⟩ := peq_run hi.ok (kindOf_ptr hT ht) hi1 (by omega) hl hrx hry
    refine ⟨.bool b, w, G, .bool b, M, ?_, hi.ok, G.le_refl, rfl, b, rfl, hb, rfl⟩
    obtain ⟨b1, off, vs, e1, _⟩ := hrx
    rw [e1] at hrun
    simp only [execOp, ho, e1, Sem.run_bind, eqGuard_run (P := P) (w := w) (op := .eql) (t := t) (x := x) (y := y) (u := .pointer (some ⟨b1, off, none⟩)) (v := av.eval y) (.inr (.inr (.inr ⟨_, rfl⟩))), hrun, Result.andThen_ok]
    rfl
  · rintro y L ⟨b, rfl, hb, rfl⟩
    rw [hd]
    exact next b hb
end
end Go.Proofs.Ytbnhmioijeagiaa.Ab
/- Package choose: two picks of different rules held against each other: the walk. No condition. -/
set_option linter.unusedVariables false
set_option linter.unusedSimpArgs false
namespace Go.Proofs.Ytbnhmioijeagiaa.Ab
section
variable {P : Program} {T : List TI} {N : Nat} {ops : Array Oper} {o : Oper} {rest : List Oper} {Q : Exit → St → Prop} {E F : Env} {M : List Ob}
/-- The beginning of a slice of one's own; its cells stay as they are. -/
theorem aops_slo (hT : TOk P T) {t e : Nat} {ei : TI} {x h : Operand} {i : Int} {kk : IntKind} {ob : Option Nat} {n cap : Nat} (ho : o.op = .slice t x none (some h) none) (hs : sliceOf T t = some (e, ei)) (hx : opA E x = .own ob n cap) (hh : opA E h = .int kk i)
    (h0 : 0 ≤ i) (h1 : i ≤ n) (hnc : n ≤ cap) (n' : Nat) (hn' : n' = i.toNat) (hg : guardOn ops o E = some true) (hd : dstOk N o.dst = true)
    (next : AOps P N ops rest Q ⟨put E o.dst (.own ob n' cap), M⟩) : AOps P N ops (o :: rest) Q ⟨E, M⟩ := by
  refine aops_val hg hd _ M (fun K G a w hi => ?_) next
  subst hn'
  have hr := opA_rep hi x
  have hrh := opA_rep hi h
  rw [hx] at hr; rw [hh] at hrh
  simp only [Rep] at hrh
  obtain ⟨hu, hgt, _⟩ := sliceOf_spec hT hs
  have hic : i ≤ cap := by omega
  cases ob with
  | none =>
    obtain ⟨hv, rfl, rfl⟩ := hr
    have hi0 : i = 0 := by omega
    subst hi0
    refine ⟨.slice none 0 0, w, G, ?_, hi.ok, G.le_refl, ⟨rfl, rfl, rfl⟩⟩
    simp [execOp, ho, hv, hrh, Instr.sliceAt, run_und hu, Instr.slice, Instr.sliceBounds, bound_run, run_size hgt]
  | some b =>
    simp only [Rep] at hr
    refine ⟨.slice (some ⟨b, 0, none⟩) i.toNat cap, w, G, ?_, hi.ok, G.le_refl, rfl⟩
    have e2 : (if cap = 0 then (some ⟨b, 0, none⟩ : Option Addr) else some (Addr.add ⟨b, 0, none⟩ (0 * ei.size))) = some ⟨b, 0, none⟩ := by simp [addr_add]
    simp only [execOp, ho, hr, hrh, Instr.sliceAt, Sem.run_bind, run_und hu, Result.andThen_ok, Instr.slice, Instr.sliceBounds, Option.map_none, Option.map_some, Sem.run_pure, bound_run h0 hic, run_size hgt]
    simp [addr_add]
theorem yields_slo (hT : TOk P T) {t e : Nat} {ei : TI} {x h : Operand} {i : Int} {kk : IntKind} {ob : Option Nat} {n cap : Nat} (ho : o.op = .slice t x none (some h) none) (hs : sliceOf T t = some (e, ei)) (hx : opA F x = .own ob n cap) (hh : opA F h = .int kk i)
    (h0 : 0 ≤ i) (h1 : i ≤ n) (hnc : n ≤ cap) (n' : Nat) (hn' : n' = i.toNat) (hg : guardOn ops o F = some true) (hd : dstOk N o.dst = true) : Yields P N ops o (.own ob n' cap) F M := by
  intro E hE rest Q next
  exact aops_slo hT ho hs ((agree_op hE (by rw [ho]; simp [Op.operands])).trans hx) ((agree_op hE (by rw [ho]; simp [Op.operands])).trans hh) h0 h1 hnc n' hn' ((agree_guard hE).trans hg) hd next
theorem seqO_slo (hT : TOk P T) {kp : List Ob} {al : List Nat} {q : Nat} {ll : List Oper} {m d : Nat} (n' : Nat) {t e : Nat} {ei : TI} {x h : Operand} {i : Int} {kk : IntKind} {ob : Option Nat} {n cap : Nat} (hq : al.contains q = false) (ho : o.op = .slice t x none (some h) none) (hs : sliceOf T t = some (e, ei)) (hx : opA F x = .own ob n cap) (hh : opA F h = .int kk i)
    (h0 : 0 ≤ i) (h1 : i ≤ n) (hnc : n ≤ cap) (hn' : n' = i.toNat) (hg : guardOn ops o F = some true) (hd : o.dst = some d) (hN : Nat.blt d N = true) (next : SeqO P N ops Q kp al (q + 1) ((d, .own ob n' cap) :: F) M m ll) : SeqO P N ops Q kp al q F M (m + 1) (o :: ll) :=
  seqO_y hq (fun M' => yields_slo hT ho hs hx hh h0 h1 hnc n' hn' hg (by rw [hd]; exact hN)) hd next
/-- The last cells of an object of one's own are no longer told of. -/
theorem inv_trim {K : Ctx} {G : Gh} {a : Act} {w : World} (k n : Nat) {ob : Option Nat} {room : Nat} {cs : List A} (hM : M[k]? = some ⟨ob, room, cs⟩) (hi : Inv K N G ⟨E, M⟩ a w) : Inv K N G ⟨E, M.set k ⟨ob, room, cs.take n⟩⟩ a w := by
  refine ⟨?_, hi.sz, hi.df, hi.ev⟩
  have hk := hi.ok
  have hmem := List.mem_of_getElem? hM
  have hlt : k < M.length := (List.getElem?_eq_some_iff.1 hM).1
  cases ob with
  | none =>
    obtain ⟨e1, _⟩ := hk.vn _ hmem rfl
    simp only at e1
    subst e1
    have : M.set k ⟨none, room, List.take n []⟩ = M := by
      obtain ⟨_, e2⟩ := List.getElem?_eq_some_iff.1 hM
      rw [List.take_nil, ← e2]; exact List.set_getElem_self hlt
    rw [this]; exact hk
  | some b =>
    obtain ⟨vs, sp, t', hh, hl, hroom⟩ := hk.ow _ hmem b rfl
    refine hk.update hM rfl _ ⟨rfl, rfl, rfl, rfl, fun _ _ => rfl⟩ ⟨vs.take n, vs.drop n ++ sp, t', ?_, hl.take _, ?_⟩ (fun c t f e => ⟨c, f, e⟩)
    · rw [← List.append_assoc, List.take_append_drop]; exact hh
    · simp at hroom ⊢; omega
theorem acode_trim {c : Code} (k n : Nat) {ob : Option Nat} {room : Nat} {cs cs' : List A} {M' : List Ob} (hM : M[k]? = some ⟨ob, room, cs⟩) (hcs : cs.take n = cs') (hM' : M.set k ⟨ob, room, cs'⟩ = M') (next : ACode P N c Q ⟨E, M'⟩) : ACode P N c Q ⟨E, M⟩ := by
  subst hcs; subst hM'
  exact acode_weaken (fun K G a w hi => ⟨G, inv_trim k n hM hi⟩) next
theorem aops_trim {l : List Oper} (k n : Nat) {ob : Option Nat} {room : Nat} {cs cs' : List A} {M' : List Ob} (hM : M[k]? = some ⟨ob, room, cs⟩) (hcs : cs.take n = cs') (hM' : M.set k ⟨ob, room, cs'⟩ = M') (next : AOps P N ops l Q ⟨E, M'⟩) : AOps P N ops l Q ⟨E, M⟩ := by
  subst hcs; subst hM'
  exact aops_weaken (fun K G a w hi => ⟨G, inv_trim k n hM hi⟩) next
end
attribute [local irreducible] thenA inBlockA ACode AOps put IntKind.wrap

theorem isNaNi_calls {x : Int} (M : List Ob) : ACalls Try.prog 114 [.int .i64 x] M (fun r M' => r = .bool false ∧ M' = M) := by
  refine acalls_of_code 6 Try.func114 rfl rfl rfl ?_
  repeat' (first | refine aops_end ?_ | (refine aops_pn tok rfl rfl rfl rfl ?_ ?_ <;> intro e_) | refine aops_p tok rfl rfl rfl rfl ?_ | refine acode_seq ?_ | refine acode_region ?_)
  all_goals try (exfalso; omega)
  refine acode_ret ?_
  skip
  exact ⟨.bool false, ⟨rfl, rfl⟩, resOf_tmp (by first | rfl | simp)⟩
def cmpI (a b : Int) : Int := if a < b then -1 else if a > b then 1 else 0
theorem ccmp_calls {a b : Int} (M : List Ob) : ACalls Try.prog 105 [.int .i64 a, .int .i64 b] M (fun r M' => r = .int .i64 (cmpI a b) ∧ M' = M) := by
  refine acalls_of_code 20 Try.func105 rfl rfl rfl ?_
  repeat (first | refine aops_end ?_ | refine aops_p tok rfl rfl rfl rfl ?_ | refine acode_seq ?_ | refine acode_region ?_)
  refine aops_callx Try.func114 rfl rfl rfl rfl (isNaNi_calls _) rfl rfl rfl ?_
  repeat (first | refine aops_end ?_ | refine aops_p tok rfl rfl rfl rfl ?_ | refine acode_seq ?_ | refine acode_region ?_)
  refine aops_callx Try.func114 rfl rfl rfl rfl (isNaNi_calls _) rfl rfl rfl ?_
  unfold cmpI
  repeat' (first | refine aops_end ?_ | (refine aops_pd tok rfl rfl rfl rfl ?_ ?_ <;> intro e_) | refine aops_p tok rfl rfl rfl rfl ?_ | refine acode_it rfl ?_ | refine acode_if rfl ?_ | refine acode_seq ?_ | refine acode_region ?_ | refine acode_skip ?_ | refine then_n ?_)
  · rw [if_pos (by omega)]
    refine acode_ret ?_
    repeat (refine ret_then ?_)
    exact ⟨_, ⟨rfl, rfl⟩, resOf_tmp rfl⟩
  · rw [if_neg (by omega), if_pos (by omega)]
    refine acode_ret ?_
    repeat (refine ret_then ?_)
    exact ⟨_, ⟨rfl, rfl⟩, resOf_tmp rfl⟩
  · rw [if_neg (by omega), if_neg (by omega)]
    refine acode_ret ?_
    skip
    exact ⟨_, ⟨rfl, rfl⟩, resOf_tmp rfl⟩
/-- The next pick of a row that is not empty. -/
theorem next_calls {b : Nat} {ob : Option Nat} {cap : Nat} {cs ys : List A} (hc : cs.length + 1 ≤ cap) (hl : cs.length ≤ 1000000000) (M : List Ob) : ACalls Try.prog 104 [.ref b 0] (⟨some b, 1, [.own ob (cs.length + 1) cap]⟩ :: ⟨ob, cap * 1, cs ++ [.cp ys]⟩ :: M) (fun r M' => r = .cp ys ∧ M' = ⟨some b, 1, [.own ob cs.length cap]⟩ :: ⟨ob, cap * 1, cs⟩ :: M) := by
  refine acalls_of_code 37 Try.func104 rfl rfl rfl ?_
  repeat' (first | refine aops_end ?_ | refine aops_pbf tok rfl (by first | omega | decide) rfl rfl rfl ?_ | refine aops_p tok rfl rfl rfl rfl ?_ | refine acode_if rfl ?_ | refine aops_ld tok 0 rfl rfl rfl rfl rfl rfl rfl rfl ?_ | refine acode_seq ?_ | refine acode_region ?_ | refine acode_skip ?_ | refine then_n ?_)
  all_goals try (exfalso; omega)
  refine acode_somed 7 rfl (by omega) fun c hc2 => ?_
  subst hc2
  refine acode_drawT 12 mixed (by kernel_rfl) (by kernel_rfl) ?_
  repeat (first | refine seqT_a tok rfl (by omega) (by omega) rfl rfl rfl ?_ | refine seqT_p tok rfl rfl rfl rfl ?_ | refine seqT_ld tok 0 rfl rfl rfl rfl rfl rfl rfl rfl ?_)
  refine seqT_ixo tok rfl rfl rfl rfl (by omega) (by omega) rfl rfl rfl ?_
  refine seqT_ld tok 1 (y := .cp ys) rfl rfl rfl rfl (by rw [headed_eq]; show (cs ++ [A.cp ys])[((cs.length + 1 : Nat) - 1 : Int).toNat * 1]? = _; rw [show ((cs.length + 1 : Nat) - 1 : Int).toNat * 1 = cs.length by omega]; simp) rfl rfl rfl ?_
  refine SeqT.done ?_
  repeat (first | refine aops_end ?_ | refine aops_p tok rfl rfl rfl rfl ?_ | refine acode_seq ?_)
  refine acode_drawP [] 12 [0, 1, 2, 3, 4, 5, 6, 7, 8, 9, 10, 11] [] mixed (by kernel_rfl) (by kernel_rfl) rfl ?_
  refine seqO_T rfl ?_
  repeat (first | refine seqT_a tok rfl (by omega) (by omega) rfl rfl rfl ?_ | refine seqT_p tok rfl rfl rfl rfl ?_ | refine seqT_ld tok 0 rfl rfl rfl rfl rfl rfl rfl rfl ?_)
  refine seqT_y (yields_slo tok (i := (cs.length : Int)) (kk := .i64) rfl rfl rfl (by show A.int _ _ = A.int _ _; congr 1; omega) (by omega) (by omega) hc cs.length (by omega) rfl rfl) rfl ?_
  refine SeqT.done ?_
  repeat (first | refine aops_end ?_ | refine aops_p tok rfl rfl rfl rfl ?_ | refine aops_stn tok rfl rfl rfl rfl rfl rfl rfl rfl rfl ?_ | refine acode_seq ?_ | refine acode_region ?_)
  refine acode_trim (cs' := cs) 1 cs.length rfl (by simp) rfl ?_
  refine acode_ret ?_
  skip
  exact ⟨_, ⟨rfl, rfl⟩, resOf_tmp rfl⟩
theorem same_int {k k' : IntKind} {a b : Int} {xs ys : List A} (h : SameC (.int k a :: xs) (.int k' b :: ys)) : a = b := by
  obtain ⟨G, vs, h1, h2⟩ := h
  obtain ⟨v, vs1, rfl, h3, _⟩ := h1
  obtain ⟨v', vs2, e, h4, _⟩ := h2
  simp only [Rep] at h3 h4
  cases e
  rw [h3] at h4
  cases h4; rfl
set_option maxHeartbeats 4000000 in
theorem cmpR_calls {a1 a2 : Al} {w1 w2 : Int} {k1 k2 : List Pk} (h : a1.rule ≠ a2.rule) (M : List Ob) : ACalls Try.prog 88 [pkA (.nd a1 w1 k1), pkA (.nd a2 w2 k2)] M (fun r M' => r = .int .i64 (cmpI a1.rule a2.rule) ∧ M' = M) := by
  rw [pkA_nd, pkA_nd]
  refine acalls_of_code 62 Try.func88 rfl rfl rfl ?_
  repeat (first | refine aops_end ?_ | refine aops_p tok rfl rfl rfl rfl ?_ | refine acode_seq ?_ | refine acode_region ?_)
  refine aops_lito tok rfl rfl rfl rfl rfl rfl rfl fun o1 => ?_
  repeat (refine aops_p tok rfl rfl rfl rfl ?_)
  refine aops_lito tok rfl rfl rfl rfl rfl rfl rfl fun o2 => ?_
  repeat (refine aops_p tok rfl rfl rfl rfl ?_)
  refine aops_alloc tok rfl rfl rfl rfl rfl rfl fun b5 => ?_
  skip
  refine aops_alloc tok rfl rfl rfl rfl rfl rfl fun b6 => ?_
  repeat (first | refine aops_end ?_ | refine aops_stn tok rfl rfl rfl rfl rfl rfl rfl rfl rfl ?_ | refine aops_stn1 tok rfl rfl rfl rfl rfl rfl rfl rfl rfl ?_ | refine acode_block ?_)
  refine acode_loopS (ι := Unit) (fun _ => [(5, .ref b5 0), (6, .ref b6 0)]) (fun _ => [⟨some b6, 1, [.own (some o2) 1 1]⟩, ⟨some b5, 1, [.own (some o1) 1 1]⟩, ⟨some o2, 1, [.cp [.int .i64 a2.rule, .psl a2.kids.length (ints a2.kids), .int .i64 w2, .psl k2.length (encs pk1 k2)]]⟩, ⟨some o1, 1, [.cp [.int .i64 a1.rule, .psl a1.kids.length (ints a1.kids), .int .i64 w1, .psl k1.length (encs pk1 k1)]]⟩] ++ M) (fun _ => 0) (fun _ => True) () trivial ⟨rfl, rfl, trivial⟩ rfl ?_
  rintro - -
  refine acode_perm (⟨some b5, 1, [.own (some o1) 1 1]⟩ :: ⟨some o1, 1, [.cp [.int .i64 a1.rule, .psl a1.kids.length (ints a1.kids), .int .i64 w1, .psl k1.length (encs pk1 k1)]]⟩ :: ⟨some b6, 1, [.own (some o2) 1 1]⟩ :: ⟨some o2, 1, [.cp [.int .i64 a2.rule, .psl a2.kids.length (ints a2.kids), .int .i64 w2, .psl k2.length (encs pk1 k2)]]⟩ :: M) ?_ ?_
  · exact (List.Perm.swap _ _ _).trans (.cons _ (List.perm_middle (l₁ := [_, _])))
  repeat (first | refine acode_seq ?_ | refine acode_region ?_ | refine acode_block ?_)
  refine aops_call Try.func104 rfl rfl rfl rfl (next_calls (b := b5) (ob := some o1) (cap := 1) (cs := []) (by decide) (by decide) _) rfl rfl ?_
  rintro y M' ⟨rfl, rfl⟩
  repeat (refine aops_put rfl ?_)
  refine aops_perm (⟨some b6, 1, [.own (some o2) 1 1]⟩ :: ⟨some o2, 1, [.cp [.int .i64 a2.rule, .psl a2.kids.length (ints a2.kids), .int .i64 w2, .psl k2.length (encs pk1 k2)]]⟩ :: ⟨some b5, 1, [.own (some o1) 0 1]⟩ :: ⟨some o1, 1, []⟩ :: M) ?_ ?_
  · exact List.perm_append_comm_assoc [_, _] [_, _] M
  refine aops_call Try.func104 rfl rfl rfl rfl (next_calls (b := b6) (ob := some o2) (cap := 1) (cs := []) (by decide) (by decide) _) rfl rfl ?_
  rintro y M' ⟨rfl, rfl⟩
  repeat (first | refine aops_put rfl ?_ | refine aops_end ?_ | refine aops_p tok rfl rfl rfl rfl ?_ | refine acode_seq ?_ | refine acode_region ?_ | refine acode_block ?_)
  refine aops_pz tok (b := false) rfl rfl rfl rfl rfl rfl ?_
  repeat (refine aops_p tok rfl rfl rfl rfl ?_)
  refine aops_pz tok (b := false) rfl rfl rfl rfl rfl rfl ?_
  repeat' (first | refine aops_end ?_ | refine aops_p tok rfl rfl rfl rfl ?_ | refine acode_if rfl ?_ | refine acode_seq ?_ | refine acode_region ?_)
  refine aops_peq tok rfl rfl rfl rfl rfl rfl rfl rfl rfl rfl fun q hq => ?_
  cases q with
  | true => exact absurd (same_int (hq rfl)) h
  | false =>
    repeat' (first | refine aops_end ?_ | refine aops_p tok rfl rfl rfl rfl ?_ | refine acode_if rfl ?_ | refine acode_seq ?_)
    refine acode_drawT 12 mixed (by kernel_rfl) (by kernel_rfl) ?_
    repeat' (first | (refine seqT_pn tok rfl rfl rfl rfl ?_ ?_ <;> intro e_) | refine seqT_p tok rfl rfl rfl rfl ?_)
    all_goals try (exfalso; omega)
    refine SeqT.done ?_
    repeat' (first | refine aops_end ?_ | refine acode_it rfl ?_ | refine acode_seq ?_)
    refine acode_drawT 11 mixed (by kernel_rfl) (by kernel_rfl) ?_
    repeat (refine seqT_p tok rfl rfl rfl rfl ?_)
    refine seqT_call _ Try.func105 rfl rfl rfl rfl (ccmp_calls _) rfl rfl rfl ?_
    refine SeqT.done ?_
    repeat (first | refine aops_end ?_ | refine aops_p tok rfl rfl rfl rfl ?_)
    refine acode_drop0 (acode_drop0 (acode_drop0 (acode_drop0 ?_)))
    refine acode_ret ?_
    repeat (first | refine ret_then ?_ | refine ret_block ?_)
    exact ⟨_, ⟨rfl, rfl⟩, resOf_tmp rfl⟩
end Go.Proofs.Ytbnhmioijeagiaa.Ab
/- Ranges over a function: rounds of a loop's body, walked over abstract values. No condition. -/
set_option linter.unusedVariables false
set_option linter.unusedSimpArgs false
namespace Go.Proofs.Ytbnhmioijeagiaa.Ab
/-- The fence that bars nothing, at a round or at none. -/
abbrev Fr (ro : Option Nat) : Fence := { Fence.wide with round := ro }
def noDef (o : Oper) : Bool := match o.op with | .defer _ => false | _ => true
theorem noDef_at {o : Oper} (h : noDef o = true) (ro : Option Nat) (ρ : Operand → Value) : o.semAt ro ρ = execOp ρ o :=
  Oper.semAt_eq ro ρ o fun c hc => by unfold noDef at h; rw [hc] at h; cases h
section conv
variable {P : Program} {ro : Option Nat} {n : Nat} {ops : Array Oper} {Q Q' : Exit → Act → World → Prop}
theorem calls_in {f : FuncId} {args : Array Value} {w : World} {R : Ending → World → Prop} (h : Calls P f args w R) : CallsIn (Fr ro) n P f args w R :=
  (callsIn_wide (n := n)).2 h
theorem calls_out {f : FuncId} {args : Array Value} {w : World} {R : Ending → World → Prop} (h : CallsIn (Fr ro) n P f args w R) : Calls P f args w R :=
  (callsIn_wide (n := n)).1 h
theorem rows_in {row : String} {args : Array Value} {w : World} {R : Value → World → Prop} (h : Rows P row args w R) : RowsIn (Fr ro) n P row args w R :=
  fun c cs _ => let ⟨v, w', r, s⟩ := h c cs; ⟨v, w', r, stepsIn_wide.2 s⟩
theorem upon_in {o : Oper} {a : Act} {next next' : Act → World → Prop} (hn : ∀ a w, next a w → next' a w) (hq : ∀ e a w, e ≠ .normal → Q e a w → Q' e a w) (hl : ¬ LetsOut Q) {r : Result Next} (h : o.upon P a next Q r) : o.uponIn (Fr ro) n P a next' Q' r := by
  have hd : ((Fr ro).depth.isSome = true → 1 ≤ n) := fun h => by cases h
  cases r with
  | ok x w' =>
    cases x <;> simp only [Oper.upon] at h <;> simp only [Oper.uponIn] <;> first
      | exact h.elim
      | exact hn _ _ h
      | exact ⟨hd, rows_in (h.mono fun _ _ he => hn _ _ he)⟩
      | exact ⟨hd, calls_in (h.mono fun e w'' he => by
          cases e with
          | returned v => exact hn _ _ he
          | panicked ch => exact hq _ _ _ (by simp) he
          | outgrown => exact absurd he hl)⟩
  | halt x w' => cases x <;> simp only [Oper.upon] at h <;> simp only [Oper.uponIn] <;> first | exact h.elim | exact hq _ _ _ (by simp) h
theorem op_in {o : Oper} {a : Act} {w : World} {next next' : Act → World → Prop} (hd : noDef o = true) (hn : ∀ a w, next a w → next' a w) (hq : ∀ e a w, e ≠ .normal → Q e a w → Q' e a w) (hl : ¬ LetsOut Q) (h : o.wp P a w next Q ∨ (o.asks P a w ∧ LetsOut Q)) : o.wpIn (Fr ro) n P a w next' Q' := by
  rcases h with h | h
  · refine ⟨fun _ _ => trivial, ?_⟩
    rw [noDef_at hd]
    exact upon_in hn hq hl h
  · exact absurd h.2 hl
theorem list_in (hq : ∀ e a w, e ≠ .normal → Q e a w → Q' e a w) (hl : ¬ LetsOut Q) {l2 : List Oper} (h2 : ∀ a w, Q .normal a w → wpListIn (Fr ro) n P ops Q' l2 a w) : ∀ (l : List Oper) (a : Act) (w : World), l.all noDef = true → wpList P ops Q l a w → wpListIn (Fr ro) n P ops Q' (l ++ l2) a w
  | [], a, w, _, h => h2 a w h
  | o :: l, a, w, hd, h => by
    simp only [List.all_cons, Bool.and_eq_true] at hd
    simp only [wpList] at h
    simp only [List.cons_append, wpListIn]
    split
    · rename_i hw
      rw [if_pos hw] at h
      exact op_in hd.1 (fun a w => list_in hq hl h2 l a w hd.2) hq hl h
    · rename_i hw
      rw [if_neg hw] at h
      exact ⟨fun _ _ => trivial, list_in hq hl h2 l _ _ hd.2 h⟩
theorem any_in {md : Region.Mode} (hd : ops.toList.all noDef = true) (hl : ¬ LetsOut Q) : ∀ (fuel : Nat) (listed : Array Bool) (a : Act) (w : World), wpAny P md ops Q fuel listed a w → wpAnyIn (Fr ro) n P md ops Q fuel listed a w
  | 0, _, _, _, h => h
  | fuel + 1, listed, a, w, h => by
    refine ⟨h.1, fun i hi => ?_⟩
    have h1 := h.2 i hi
    unfold wpOp at h1
    unfold wpOpIn
    cases ho : ops[i]? with
    | none => rw [ho] at h1; exact any_in hd hl fuel _ _ _ h1
    | some o =>
      rw [ho] at h1
      simp only at h1 ⊢
      have hdo : noDef o = true := List.all_eq_true.1 hd o (by
        obtain ⟨hlt, he⟩ := Array.getElem?_eq_some_iff.1 ho
        rw [← he]; exact Array.getElem_mem_toList hlt)
      split
      · rename_i hw
        rw [if_pos hw] at h1
        exact op_in hdo (fun a w => any_in hd hl fuel _ a w) (fun _ _ _ _ h => h) hl h1
      · rename_i hw
        rw [if_neg hw] at h1
        exact ⟨fun _ _ => trivial, any_in hd hl fuel _ _ _ h1⟩
end conv
/-! ### A body in a round -/
def ACodeR (ro : Option Nat) (P : Program) (N : Nat) (c : Code) (Q : Exit → St → Prop) (st : St) : Prop := ∀ n K G a w, Inv K N G st a w → c.wpIn (Fr ro) n P (lift K N Q) a w
section rounds
variable {P : Program} {N : Nat} {ro : Option Nat} {Q : Exit → St → Prop} {st : St}
theorem lets_lift {K : Ctx} (h : ∀ s, ¬ Q .outgrown s) : ¬ LetsOut (lift K N Q) := fun ⟨_, _, _, s, hs, _⟩ => h s hs
theorem acodeR_skip (h : Q .normal st) : ACodeR ro P N .skip Q st := fun n K G a w hi => wpIn_skip ⟨G, st, h, hi⟩
theorem acodeR_seq {x y : Code} (h : ACodeR ro P N x (thenA (ACodeR ro P N y Q) Q) st) : ACodeR ro P N (.seq x y) Q st := by
  intro n K G a w hi
  refine wpIn_seq (wpIn_mono (h n K G a w hi) ?_)
  rintro e a' w' ⟨G', s, q, i⟩
  cases e with
  | normal => exact q n K G' a' w' i
  | _ => exact ⟨G', s, q, i⟩
theorem acodeR_cond {t : Tmp} {x y : Code} {b : Bool} (hb : get st.E t = .bool b) (h1 : b = true → ACodeR ro P N x Q st) (h0 : b = false → ACodeR ro P N y Q st) : ACodeR ro P N (.cond (.tmp t) x y) Q st := by
  intro n K G a w hi
  have he := hi.ev t
  rw [hb] at he
  simp only [Rep] at he
  cases b
  · exact wpIn_cond (t := false) he (h0 rfl n K G a w hi)
  · exact wpIn_cond (t := true) he (h1 rfl n K G a w hi)
theorem acodeR_block {id : Nat} {c : Code} (h : ACodeR ro P N c (inBlockA id Q) st) : ACodeR ro P N (.block id c) Q st := by
  intro n K G a w hi
  refine wpIn_block (wpIn_mono (h n K G a w hi) ?_)
  rintro e a' w' ⟨G', s, q, i⟩
  cases e with
  | exit j =>
    simp only [Exit.inBlock, inBlockA] at q ⊢
    by_cases hj : j = id
    · subst hj
      simp at q
      rw [if_pos rfl]
      exact ⟨G', s, q, i⟩
    · have : Nat.beq j id = false := by
        cases hb : Nat.beq j id with
        | false => rfl
        | true => exact absurd (Nat.eq_of_beq_eq_true hb) hj
      rw [this] at q
      rw [if_neg hj]
      exact ⟨G', s, q, i⟩
  | _ => exact ⟨G', s, q, i⟩
theorem acodeR_region {id : Nat} {l : List Oper} (hd : l.all noDef = true) (hQ : ∀ s, ¬ Q .outgrown s) (h : AOps P N l.toArray l Q st) : ACodeR ro P N (.region id l.toArray false) Q st := by
  intro n K G a w hi
  refine wpIn_region_lit ?_
  have := list_in (P := P) (ro := ro) (n := n) (ops := l.toArray) (Q := lift K N Q) (Q' := lift K N Q) (fun _ _ _ _ h => h) (lets_lift hQ) (l2 := []) (fun a w h => wpListIn_nil h) l a w hd (h K G a w hi)
  rwa [List.append_nil] at this
theorem acodeR_drawP {id : Nat} {E : Env} {M : List Ob} {l l' : List Oper} (kp : List Ob) (n : Nat) (js al : List Nat) (hd : l.all noDef = true) (hQ : ∀ s, ¬ Q .outgrown s) (hm : P.follows .mixedOrders = true) (hB : drawP l.toArray js al n = true)
    (hseq : Region.seqB .any l.toArray (l.drop n).length n (((List.range l.length).map fun i => Nat.blt i n).toArray) = true)
    (hl' : pickL l (js ++ (List.range l.length).drop n) = some l')
    (h : SeqO P N l.toArray Q kp al 0 E M n l') : ACodeR ro P N (.region id l.toArray true) Q ⟨E, M⟩ := fun m K G a w hi =>
  wpIn_region_any hm (any_in (by simpa using hd) (lets_lift hQ) _ _ _ _ (any_drawP kp n js al hm hB hseq hl' h K G a w hi))
end rounds
/-! ### Worlds that differ in nothing that is told of -/
theorem Ok.move {K K' : Ctx} {G : Gh} {M : List Ob} {w w' : World} (h : Ok K G M w) (hg : K'.g0.le G) (hos : w'.os = K'.w0.os) (htp : w'.tape = K'.w0.tape) (hout : w'.output = K'.w0.output) (hsz : K'.w0.heap.size ≤ w'.heap.size)
    (hfr : ∀ k, k < K'.w0.heap.size → k ∉ K'.own0 → w'.heap[k]? = K'.w0.heap[k]?) (hc : ∀ (b : Nat) c t f, w.heap[b]? = some (Obj.cells c t f) → w'.heap[b]? = some (Obj.cells c t f)) (hm : ∀ (b : Nat) es c, w.heap[b]? = some (Obj.map es c) → w'.heap[b]? = some (Obj.map es c))
    (hkb : ∀ o ∈ M, ∀ b, o.b = some b → b ∈ K'.own0 ∨ K'.w0.heap.size ≤ b) (hy : ∀ b ks, G.Y b = some ks → b < K'.w0.heap.size → K'.g0.Y b = some ks) : Ok K' G M w' := by
  refine ⟨hg, hos, htp, hout, hsz, hfr, fun b hb => ?_, fun o ho b hb => ?_, h.vn, h.un, hkb, h.nd, fun b ks e => ?_, fun b hb => ?_, fun b t hb => ?_⟩
  · obtain ⟨c, t, f, h1, h2⟩ := h.fz b hb
    exact ⟨c, t, f, hc _ _ _ _ h1, h2⟩
  · obtain ⟨vs, sp, t, h1, h2, h3⟩ := h.ow o ho b hb
    exact ⟨vs, sp, t, hc _ _ _ _ h1, h2, h3⟩
  · obtain ⟨⟨es, c, h1, h2⟩, _⟩ := h.mz b ks e
    exact ⟨⟨es, c, hm _ _ _ h1, h2⟩, hy b ks e⟩
  · obtain ⟨h1, c, t, h2⟩ := h.um b hb
    exact ⟨h1, c, t, hc _ _ _ _ h2⟩
  · obtain ⟨c, f, h1⟩ := h.wt b t hb
    exact ⟨c, f, hc _ _ _ _ h1⟩
/-- What is one's own is no loop's record. -/
theorem Ok.notOwn {K : Ctx} {G : Gh} {M : List Ob} {w : World} (h : Ok K G M w) {l : Nat} (hl : ∀ c t f, w.heap[l]? ≠ some (Obj.cells c t f)) : l ∉ keys M := by
  intro hm
  obtain ⟨o, ho, hb⟩ := List.mem_filterMap.1 hm
  obtain ⟨vs, sp, t, h1, _⟩ := h.ow o ho l hb
  exact hl _ _ _ h1
end Go.Proofs.Ytbnhmioijeagiaa.Ab
/- Ranges over a function: the call of yield, the iterator's contract, the statement. No condition. -/
set_option linter.unusedVariables false
set_option linter.unusedSimpArgs false
namespace Go.Proofs.Ytbnhmioijeagiaa.Ab
section
variable {P : Program}
/-- What a round does: from these objects to those; G0 is what is known when the loop begins. -/
def YieldC (P : Program) (l : Nat) (rec : Loop) (G0 : Gh) (xs : List A) (M : List Ob) (R : List Ob → Prop) : Prop := ∀ n G w vs, Ok ⟨w, keys M, G⟩ G M w → G0.le G → w.heap[l]? = some (.loop rec) → RepL G xs vs →
  ∃ fn tmps assign body, (Instr.yield l vs.toArray).run P w = .ok (.round l fn tmps assign body) w ∧ RoundIn (Fr none) n P l fn tmps assign body w fun e w' => e = .returned (.bool true) ∧ ∃ G' M', R M' ∧ Ok ⟨w, keys M, G⟩ G' M' w'
/-- What an iterator does: it calls yield with these values, one after the other. -/
def IterC (P : Program) (gf : FuncId) (cap : List A) (xs : Nat → List A) (len : Nat) : Prop := ∀ (J : Nat → List Ob → Prop) (M0 : List Ob) (l : Nat) (rec : Loop) n G w vs, J 0 M0 → Ok ⟨w, keys M0, G⟩ G M0 w → RepL G (.yld l :: cap) vs → w.heap[l]? = some (.loop rec) → (∀ k M, k < len → J k M → YieldC P l rec G (xs k) M (J (k + 1))) →
  CallsIn (Fr none) n P gf vs.toArray w fun e w' => ∃ v, e = .returned v ∧ ∃ G' M', J len M' ∧ Ok ⟨w, keys M0, G⟩ G' M' w'
theorem putObj_cells {w : World} {l : Nat} {r r' : Loop} (hl : w.heap[l]? = some (.loop r)) {b : Nat} {o : Obj} (ho : w.heap[b]? = some o) (hne : ∀ r, o ≠ .loop r) : (w.putObj l (.loop r')).heap[b]? = some o := by
  have : b ≠ l := fun e => by subst e; rw [hl] at ho; cases ho; exact hne _ rfl
  rw [World.putObj_heap_other this]; exact ho
/-- A round, out of the walks of its assignment and its body. -/
theorem yield_of {l : Nat} {f : FuncId} {tmps : Array Value} {ps : Array Tmp} {assign body : Code} {D N : Nat} {G0 : Gh} {E0 E : Env} {xs : List A} {M : List Ob} {R : List Ob → Prop} (hN : tmps.size = N) (he : ∀ t, Rep G0 (get E0 t) (tmps.getD t undef))
    (hp : ∀ (G : Gh) (vs : List Value), G0.le G → RepL G xs vs → vs.length = ps.size ∧ ((ps.zip vs.toArray).foldl (fun tmps (t, a) => tmps.setIfInBounds t a) tmps).size = N ∧ ∀ t, Rep G (get E t) (((ps.zip vs.toArray).foldl (fun tmps (t, a) => tmps.setIfInBounds t a) tmps).getD t undef))
    (h : ACodeR (some l) P N assign (fun e s => e = .normal ∧ s.M = M ∧ ACodeR (some l) P N body (fun e s => e = .normal ∧ R s.M) s) ⟨E, M⟩) :
    YieldC P l { state := .ready, pending := none, fn := f, tmps, params := ps, assign, body, defers := D } G0 xs M R := by
  intro n G w vs hok hle hl hvs
  obtain ⟨hp1, hp2, hp3⟩ := hp G vs hle hvs
  refine ⟨f, _, assign, body, run_yield hl (by simpa using hp1), ?_⟩
  have hlo : l ∉ keys M := hok.notOwn (fun c t f e => by rw [hl] at e; cases e)
  have hll : l < w.heap.size := (Array.getElem?_eq_some_iff.1 hl).1
  refine roundIn_of_wpIn (F := Fr none) trivial ?_
  refine wpIn_mono (h n ⟨w, keys M, G⟩ G _ w ⟨hok, hp2, rfl, hp3⟩) ?_
  rintro e a1 w1 ⟨G1, ⟨E1, M1⟩, ⟨rfl, hM1, hb⟩, hi1⟩
  simp only at hM1
  subst hM1
  have hl1 : w1.heap[l]? = some (.loop { state := .ready, pending := none, fn := f, tmps, params := ps, assign, body, defers := D }) := (hi1.ok.fr l hll hlo).trans hl
  refine ⟨_, run_beginRound hl1 rfl, ?_⟩
  have hsz1 : w.heap.size ≤ w1.heap.size := hi1.ok.size
  have hok2 : Ok ⟨w1.putObj l (.loop { state := .busy, pending := none, fn := f, tmps, params := ps, assign, body, defers := D }), keys M1, G1⟩ G1 M1 (w1.putObj l (.loop { state := .busy, pending := none, fn := f, tmps, params := ps, assign, body, defers := D })) :=
    hi1.ok.move (Gh.le_refl _) rfl rfl rfl (Nat.le_refl _) (fun _ _ _ => rfl) (fun b c t f hb => putObj_cells hl1 hb (by simp)) (fun b es c hb => putObj_cells hl1 hb (by simp)) (fun o ho b hb => .inl (List.mem_filterMap.2 ⟨o, ho, hb⟩)) (fun b ks e _ => e)
  refine wpIn_mono (hb n ⟨_, keys M1, G1⟩ G1 _ _ ⟨hok2, hi1.sz, hi1.df, hi1.ev⟩) ?_
  rintro e a2 w2 ⟨G2, ⟨E2, M2⟩, ⟨rfl, hM2⟩, hi2⟩
  simp only at hM2
  have hl1' : l < w1.heap.size := by omega
  have hl2 : w2.heap[l]? = some (.loop { state := .busy, pending := none, fn := f, tmps, params := ps, assign, body, defers := D }) := (hi2.ok.fr l (by show l < (w1.putObj l _).heap.size; rw [World.putObj_size]; exact hl1') hlo).trans (World.putObj_heap_same hl1')
  refine ⟨_, _, run_endRound none hl2, rfl, G2, M2, hM2, ?_⟩
  have hs2 : w1.heap.size ≤ w2.heap.size := by have := hi2.ok.size; simpa using this
  refine hi2.ok.move (Gh.le_trans hi1.ok.g hi2.ok.g) (hi2.ok.os.trans hi1.ok.os) (hi2.ok.tape.trans hi1.ok.tape) (hi2.ok.output.trans hi1.ok.output) (by rw [World.putObj_size]; show w.heap.size ≤ _; omega) (fun k hk hko => ?_) (fun b c t f hb => putObj_cells hl2 hb (by simp)) (fun b es c hb => putObj_cells hl2 hb (by simp)) (fun o ho b hb => ?_) (fun b ks e hb => ?_)
  · have hk : k < w.heap.size := hk
    by_cases hkl : k = l
    · subst hkl
      rw [World.putObj_heap_same (by omega)]
      exact hl.symm
    · rw [World.putObj_heap_other hkl, hi2.ok.fr k (by show k < (w1.putObj l _).heap.size; rw [World.putObj_size]; omega) hko]
      show (w1.putObj l _).heap[k]? = _
      rw [World.putObj_heap_other hkl]
      exact hi1.ok.fr k hk hko
  · rcases hi2.ok.kb o ho b hb with h1 | h1
    · exact .inl h1
    · refine .inr ?_
      have h1 : (w1.putObj l _).heap.size ≤ b := h1
      rw [World.putObj_size] at h1
      show w.heap.size ≤ b
      omega
  · have hb : b < w.heap.size := hb
    exact (hi1.ok.mz b ks ((hi2.ok.mz b ks e).2 (by show b < (w1.putObj l _).heap.size; rw [World.putObj_size]; omega))).2 hb
end
end Go.Proofs.Ytbnhmioijeagiaa.Ab
/- Ranges over a function: a function that ends in one. No condition. -/
set_option linter.unusedVariables false
set_option linter.unusedSimpArgs false
namespace Go.Proofs.Ytbnhmioijeagiaa.Ab
section
variable {P : Program}
/-- What lies behind the code ahead of the statement: the iterator's contract, the rounds', the end. -/
def RangeS (P : Program) (N : Nat) (g : Operand) (p1 p2 : Tmp) (assign body : Code) (R : A → List Ob → Prop) (s : St) : Prop :=
  ∃ (gf : Nat) (cap : List A) (gfn : Func) (x1 x2 : Nat → A) (len : Nat) (J : Nat → List Ob → Prop), J 0 s.M ∧ opA s.E g = .fn gf cap ∧ P.funcs[gf]? = some gfn ∧ callable gfn = true ∧ IterC P gf cap (fun k => [x1 k, x2 k]) len ∧
    (∀ k M, k < len → J k M → ∀ l, ACodeR (some l) P N assign (fun e s' => e = .normal ∧ s'.M = M ∧ ACodeR (some l) P N body (fun e s'' => e = .normal ∧ J (k + 1) s''.M) s') ⟨(p2, x2 k) :: (p1, x1 k) :: s.E, M⟩) ∧ ∀ M, J len M → ∃ M', M'.Sublist M ∧ R (.tup []) M'
theorem Ok.lsub {K : Ctx} {G : Gh} {M M' : List Ob} {w : World} (h : Ok K G M w) (hs : M'.Sublist M) : Ok K G M' w :=
  ⟨h.g, h.os, h.tape, h.output, h.size, h.fr, h.fz, fun o ho => h.ow o (hs.subset ho), fun o ho => h.vn o (hs.subset ho), fun o ho => h.un o (hs.subset ho), fun o ho => h.kb o (hs.subset ho), (hs.filterMap _).nodup h.nd, h.mz, h.um, h.wt⟩
theorem alloc_old {w : World} (o : Obj) {k : Nat} (h : k < w.heap.size) : (w.alloc o).heap[k]? = w.heap[k]? := by
  show (w.heap.push o)[k]? = _
  rw [Array.getElem?_push, if_neg (Nat.ne_of_lt h)]
theorem set2_get {tmps : Array Value} {p1 p2 : Nat} {v1 v2 : Value} {G : Gh} {E : Env} {x1 x2 : A} (h1 : p1 < tmps.size) (h2 : p2 < tmps.size) (he : ∀ t, Rep G (get E t) (tmps.getD t undef)) (r1 : Rep G x1 v1) (r2 : Rep G x2 v2) (t : Nat) :
    Rep G (get ((p2, x2) :: (p1, x1) :: E) t) (((tmps.setIfInBounds p1 v1).setIfInBounds p2 v2).getD t undef) := by
  simp only [get]
  cases hb2 : Nat.beq p2 t with
  | true =>
    obtain rfl := Nat.eq_of_beq_eq_true hb2
    simp only [cond_true]
    simpa [h2] using r2
  | false =>
    have hne2 : p2 ≠ t := fun e => by subst e; simp at hb2
    simp only [cond_false]
    cases hb1 : Nat.beq p1 t with
    | true =>
      obtain rfl := Nat.eq_of_beq_eq_true hb1
      simp only [cond_true]
      simpa [h1, hne2, Array.getElem?_setIfInBounds] using r1
    | false =>
      have hne1 : p1 ≠ t := fun e => by subst e; simp at hb1
      simp only [cond_false]
      have := he t
      simpa [hne1, hne2, Array.getElem?_setIfInBounds] using this
theorem acalls_range {f : FuncId} {fn : Func} {pre pre2 : Code} {bid : Nat} {g : Operand} {p1 p2 : Tmp} {assign body : Code} {args : List A} {M : List Ob} {R : A → List Ob → Prop} (N : Nat)
    (hf : P.funcs[f]? = some fn) (hb : fn.body = some (.seq pre (.seq pre2 (.block bid (.rangeFunc g #[p1, p2] assign body))))) (hN : fn.ntmps = N) (hn : Nat.ble args.length N = true) (hp1 : Nat.blt p1 N = true) (hp2 : Nat.blt p2 N = true) (hres : fn.results = #[])
    (h : ACode P N pre (fun e s => e = .normal ∧ ACode P N pre2 (fun e s => e = .normal ∧ RangeS P N g p1 p2 assign body R s) s) ⟨envFrom 0 args, M⟩) : ACalls P f args M R := by
  intro G w vs ho hl
  subst hN
  have hn : args.length ≤ fn.ntmps := Nat.le_of_ble_eq_true hn
  have hp1 : p1 < fn.ntmps := by simpa using hp1
  have hp2 : p2 < fn.ntmps := by simpa using hp2
  have hlen := hl.length
  refine calls_out (ro := none) (n := 0) (callsIn_of_wp_marks (F := Fr none) hf hb trivial ?_)
  refine wpIn_seq (wpIn_mono ((wpIn_wide (n := 0)).2 (h ⟨w, keys M, G⟩ G _ w ⟨ho, ?_, rfl, ?_⟩)) ?_)
  · simp; omega
  · intro t
    show Rep G (get (envFrom 0 args) t) _
    rw [get_envFrom, if_pos (Nat.zero_le _), Nat.sub_zero]
    by_cases ht : t < args.length
    · obtain ⟨v, hv, hr⟩ := hl.at t (List.getElem?_eq_getElem ht)
      have e1 : args.getD t .any = args[t] := by simp [ht]
      rw [e1]
      have hlt : t < vs.length := by omega
      have e2 : vs[t] = v := by rw [List.getElem?_eq_getElem hlt] at hv; exact Option.some.inj hv
      simp [Array.getElem?_append, hlt, e2, hr]
    · have e1 : args.getD t .any = .any := by simp [List.getElem?_eq_none (Nat.le_of_not_lt ht)]
      rw [e1]
      trivial
  · rintro e a0 w0 ⟨G0, s0, ⟨rfl, hpre2⟩, hi0⟩
    refine wpIn_seq (wpIn_mono ((wpIn_wide (n := 0)).2 (hpre2 ⟨w, keys M, G⟩ G0 a0 w0 hi0)) ?_)
    rintro e a1 w1 ⟨G1, ⟨E1, M1⟩, ⟨rfl, gf, cap, gfn, x1, x2, len, J, hM, hg, hgf, hgc, hit, hround, hR⟩, hi⟩
    simp only at hM hg
    have hgr := opA_rep hi g
    rw [hg] at hgr
    obtain ⟨cvs, hgv, hcl⟩ := hgr
    refine wpIn_block (wpIn_rangeFunc ?_)
    intro fid _
    obtain ⟨rec, hrec⟩ : ∃ rec : Loop, rec = { state := .ready, pending := none, fn := fid, tmps := a1.tmps, params := #[p1, p2], assign, body, defers := w1.heap.size } := ⟨_, rfl⟩
    obtain ⟨W1, hW1⟩ : ∃ W1, (w1.alloc (.deferred (some []))).alloc (.loop rec) = W1 := ⟨_, rfl⟩
    have hS1 : W1.heap.size = w1.heap.size + 2 := by rw [← hW1]; simp
    have hL1 : W1.heap[w1.heap.size + 1]? = some (.loop rec) := by
      rw [← hW1]; have := World.alloc_heap_new (w1.alloc (.deferred (some []))) (.loop rec); rwa [World.size_alloc] at this
    have hK1 : W1.heap[w1.heap.size]? = some (.deferred (some [])) := by
      rw [← hW1]; exact (alloc_old _ (by simp)).trans (World.alloc_heap_new w1 _)
    have hold : ∀ k, k < w1.heap.size → W1.heap[k]? = w1.heap[k]? := fun k hk => by
      rw [← hW1]; exact (alloc_old _ (by simp; omega)).trans (alloc_old _ hk)
    have hsome : ∀ (b : Nat) o, w1.heap[b]? = some o → W1.heap[b]? = some o := fun b o h => (hold b (Array.getElem?_eq_some_iff.1 h).1).trans h
    have hok1 : Ok ⟨W1, keys M1, G1⟩ G1 M1 W1 := hi.ok.move (Gh.le_refl _) rfl rfl rfl (Nat.le_refl _) (fun _ _ _ => rfl) (fun b c t f h => hsome b _ h) (fun b es c h => hsome b _ h) (fun o ho b hb => .inl (List.mem_filterMap.2 ⟨o, ho, hb⟩)) (fun b ks e _ => e)
    have hos1 : W1.os = w1.os ∧ W1.tape = w1.tape ∧ W1.output = w1.output := by rw [← hW1]; exact ⟨rfl, rfl, rfl⟩
    have hlo : w1.heap.size + 1 ∉ keys M1 := hok1.notOwn (fun c t f e => by rw [hL1] at e; cases e)
    have hdo : w1.heap.size ∉ keys M1 := hok1.notOwn (fun c t f e => by rw [hK1] at e; cases e)
    refine ⟨w1.heap.size + 1, [{ target := .collected w1.heap.size, args := #[] }], W1, { target := .fn (.func gf) cvs.toArray, args := #[.func (.yield (w1.heap.size + 1)) #[] #[]] }, W1, gf, #[.func (.yield (w1.heap.size + 1)) #[] #[]] ++ cvs.toArray, W1, ?_, ?_, ?_, ?_, ?_, ?_⟩
    · rw [← hW1, hrec]; exact run_enterLoop_outer _ _ _ _ _
    · simp only [resolve, hgv]
      simp [go_sem]
    · intro f' hf'; trivial
    · simp only [invoke]
      exact callFunc_run hgf hgc _ _
    · intro h; cases h
    · have hcall := hit J M1 (w1.heap.size + 1) rec (0 - 1) G1 W1 (.func (.yield (w1.heap.size + 1)) #[] #[] :: cvs) hM hok1 ⟨_, _, rfl, rfl, hcl⟩ hL1 (fun k M' hk hJ => by
        rw [hrec]
        refine yield_of (E := (p2, x2 k) :: (p1, x1 k) :: E1) hi.sz hi.ev (fun G' vs' hle hvs => ?_) (hround k M' hk hJ _)
        obtain ⟨v1, vs1, rfl, r1, v2, vs2, rfl, r2, rfl⟩ := hvs
        refine ⟨rfl, by simp [hi.sz], ?_⟩
        have hfold : (#[p1, p2].zip [v1, v2].toArray).foldl (fun tmps (t, a) => tmps.setIfInBounds t a) a1.tmps = (a1.tmps.setIfInBounds p1 v1).setIfInBounds p2 v2 := by simp
        intro t
        rw [hfold]
        revert t
        exact set2_get (by rw [hi.sz]; exact hp1) (by rw [hi.sz]; exact hp2) (fun t => (hi.ev t).mono hle) r1 r2)
      have hargs : (#[.func (.yield (w1.heap.size + 1)) #[] #[]] ++ cvs.toArray : Array Value) = (Value.func (.yield (w1.heap.size + 1)) #[] #[] :: cvs).toArray := by simp
      rw [hargs]
      refine hcall.mono ?_
      rintro e w3 ⟨v, rfl, G3, M3, hJ3, hok3⟩
      have hl3 : w3.heap[w1.heap.size + 1]? = some (.loop rec) := (hok3.fr _ (by show _ < W1.heap.size; omega) hlo).trans hL1
      have hd3 : w3.heap[w1.heap.size]? = some (.deferred (some [])) := (hok3.fr _ (by show _ < W1.heap.size; omega) hdo).trans hK1
      have hs3 : W1.heap.size ≤ w3.heap.size := hok3.size
      refine ⟨none, _, by rw [run_endLoop hl3 (by rw [hrec]; simp), hrec], ?_⟩
      simp only [Exit.inBlock, bodyPostM, hi.df]
      refine ⟨by simp, .inl ⟨w1.heap.size, _, rfl, run_takeDeferred (ds := []) ((World.putObj_heap_other (by omega)).trans hd3), ?_⟩⟩
      obtain ⟨M4, hsub, hR4⟩ := hR _ hJ3
      refine ⟨_, run_results0 hres, .tuple #[], .tup [], M4, G3, rfl, ⟨[], rfl, rfl⟩, hi.ok.back (Ok.lsub (?_ : Ok ⟨w1, keys M1, G1⟩ G3 M3 _) hsub), hR4⟩
      have hcells : ∀ (b : Nat) (o : Obj) (r : Loop), w3.heap[b]? = some o → (∀ r, o ≠ .loop r) → (∀ d, o ≠ .deferred d) → ((w3.putObj (w1.heap.size + 1) (.loop r)).putObj w1.heap.size (.deferred none)).heap[b]? = some o := fun b o r h h1 h2 => by
        have hb1 : b ≠ w1.heap.size + 1 := fun e => by subst e; rw [hl3] at h; cases h; exact h1 _ rfl
        have hb2 : b ≠ w1.heap.size := fun e => by subst e; rw [hd3] at h; cases h; exact h2 _ rfl
        rw [World.putObj_heap_other hb2, World.putObj_heap_other hb1]; exact h
      refine hok3.move (K' := ⟨w1, keys M1, G1⟩) hok3.g (hok3.os.trans hos1.1) (hok3.tape.trans hos1.2.1) (hok3.output.trans hos1.2.2) ?_ (fun k hk hko => ?_) (fun b c t f h => hcells b _ _ h (by simp) (by simp)) (fun b es c h => hcells b _ _ h (by simp) (by simp)) (fun o ho b hb => ?_) (fun b ks e hb => ?_)
      · rw [World.putObj_size, World.putObj_size]
        show w1.heap.size ≤ _
        omega
      · have hk : k < w1.heap.size := hk
        rw [World.putObj_heap_other (by omega), World.putObj_heap_other (by omega), hok3.fr k (by show k < W1.heap.size; omega) hko]
        exact hold k hk
      · rcases hok3.kb o ho b hb with h1 | h1
        · exact .inl h1
        · refine .inr ?_
          have h1 : W1.heap.size ≤ b := h1
          show w1.heap.size ≤ b
          omega
      · have hb : b < w1.heap.size := hb
        exact (hok3.mz b ks e).2 (by show b < W1.heap.size; omega)
end
end Go.Proofs.Ytbnhmioijeagiaa.Ab
/- Ranges over a function: the walk of an iterator. No condition. -/
set_option linter.unusedVariables false
set_option linter.unusedSimpArgs false
namespace Go.Proofs.Ytbnhmioijeagiaa.Ab
/-- Where the record of the loop lies. -/
def HL (lp : Nat) (rec : Loop) (G0 : Gh) (K : Ctx) : Prop := K.w0.heap[lp]? = some (.loop rec) ∧ lp ∉ K.own0 ∧ K.g0 = G0
def ACodeH (H : Ctx → Prop) (P : Program) (N : Nat) (c : Code) (Q : Exit → St → Prop) (st : St) : Prop := ∀ K G a w, H K → Inv K N G st a w → c.wp P (lift K N Q) a w
section
variable {H : Ctx → Prop} {P : Program} {N : Nat} {Q : Exit → St → Prop} {st : St} {E : Env} {M : List Ob}
theorem acodeH_of {c : Code} (h : ACode P N c Q st) : ACodeH H P N c Q st := fun K G a w _ hi => h K G a w hi
theorem acodeH_seq {x y : Code} (h : ACodeH H P N x (thenA (ACodeH H P N y Q) Q) st) : ACodeH H P N (.seq x y) Q st := by
  intro K G a w hH hi
  refine wp_seq (wp_mono (h K G a w hH hi) ?_)
  rintro e a' w' ⟨G', s, q, i⟩
  cases e with
  | normal => exact q K G' a' w' hH i
  | _ => exact ⟨G', s, q, i⟩
theorem acodeH_cond {t : Tmp} {x y : Code} {b : Bool} (hb : get st.E t = .bool b) (h1 : b = true → ACodeH H P N x Q st) (h0 : b = false → ACodeH H P N y Q st) : ACodeH H P N (.cond (.tmp t) x y) Q st := by
  intro K G a w hH hi
  have he := hi.ev t
  rw [hb] at he
  simp only [Rep] at he
  refine wp_cond_split (t := b) he (fun hb => h1 hb K G a w hH hi) (fun hb => h0 hb K G a w hH hi)
theorem acodeH_block {id : Nat} {c : Code} (h : ACodeH H P N c (inBlockA id Q) st) : ACodeH H P N (.block id c) Q st := by
  intro K G a w hH hi
  refine wp_block (wp_mono (h K G a w hH hi) ?_)
  rintro e a' w' ⟨G', s, q, i⟩
  cases e with
  | exit j =>
    simp only [Exit.inBlock, inBlockA] at q ⊢
    by_cases hj : j = id
    · subst hj
      simp at q
      rw [if_pos rfl]
      exact ⟨G', s, q, i⟩
    · have : Nat.beq j id = false := by
        cases hb : Nat.beq j id with
        | false => rfl
        | true => exact absurd (Nat.eq_of_beq_eq_true hb) hj
      rw [this] at q
      rw [if_neg hj]
      exact ⟨G', s, q, i⟩
  | _ => exact ⟨G', s, q, i⟩
theorem acodeH_loopS {ι : Type} {c : Code} (S : ι → Env) (L : ι → List Ob) (m : ι → Nat) (I : ι → Prop) (i0 : ι) (h0 : I i0) (hE : subE (S i0) E) (hM : M = L i0)
    (round : ∀ i, I i → ACodeH H P N c (thenA (fun s => ∃ j, I j ∧ m j < m i ∧ subE (S j) s.E ∧ s.M = L j) Q) ⟨S i, L i⟩) : ACodeH H P N (.loop c) Q ⟨E, M⟩ := by
  subst hM
  intro K G a w hH hi
  refine wp_loop_ghost (fun n a w => ∃ i G, I i ∧ m i = n ∧ Inv K N G ⟨S i, L i⟩ a w) (m i0) ⟨i0, G, h0, rfl, inv_sub hE hi⟩ ?_
  rintro n a w ⟨i, G, hI, rfl, hi⟩
  refine wp_mono (round i hI K G a w hH hi) ?_
  rintro e a' w' ⟨G', ⟨E', M'⟩, q, i'⟩
  cases e with
  | normal =>
    obtain ⟨j, hj, hm, hs, hM⟩ := q
    simp only at hs hM
    subst hM
    exact ⟨m j, hm, j, G', hj, rfl, inv_sub hs i'⟩
  | _ => exact ⟨G', ⟨E', M'⟩, q, i'⟩
/-- A region in which yield is called. -/
theorem acodeH_yield {id lp : Nat} {rec : Loop} {G0 : Gh} {l1 l2 : List Oper} {oy : Oper} {xs : List A} {R : List Ob → Prop} (hd : (l1 ++ oy :: l2).all noDef = true) (hQ : ∀ s, ¬ Q .outgrown s) (hy : YieldC P lp rec G0 xs M R)
    (h1 : AOps P N (l1 ++ oy :: l2).toArray l1 (fun e s => e = .normal ∧ s.M = M ∧ ∃ g args tys d, oy.op = .call { callee := .value g, args, argTypes := tys } ∧ opA s.E g = .yld lp ∧ args.toList.map (opA s.E) = xs ∧ guardOn (l1 ++ oy :: l2).toArray oy s.E = some true ∧ oy.dst = some d ∧ Nat.blt d N = true ∧ ∀ M', R M' → AOps P N (l1 ++ oy :: l2).toArray l2 Q ⟨(d, .bool true) :: s.E, M'⟩) ⟨E, M⟩) :
    ACodeH (HL lp rec G0) P N (.region id (l1 ++ oy :: l2).toArray false) Q ⟨E, M⟩ := by
  rintro K G a w ⟨hH1, hH2, hH3⟩ hi
  refine (wpIn_wide (n := 0)).1 ?_
  refine wpIn_region_lit (F := Fr none) ?_
  have hd' := hd
  rw [List.all_append, Bool.and_eq_true, List.all_cons, Bool.and_eq_true] at hd'
  have hls : K.w0.heap.size > lp := (Array.getElem?_eq_some_iff.1 hH1).1
  have hl1 := h1 K G a w hi
  refine list_in (ro := none) (n := 0) (l2 := oy :: l2) ?_ ?_ ?_ l1 a w hd'.1 hl1
  · rintro e a w he ⟨_, _, ⟨h, _⟩, _⟩
    exact absurd h he
  · exact lets_lift fun s h => by cases h.1
  · rintro a w ⟨G1, ⟨E1, M1⟩, ⟨_, hM, g, args, tys, d, hop, hg, hxs, hgu, hdst, hdN, hnext⟩, hi1⟩
    simp only at hM hg hxs hgu hnext
    subst hM
    have hgr := opA_rep hi1 g
    rw [hg] at hgr
    have hgr : a.eval g = .func (.yield lp) #[] #[] := hgr
    have hw : w.heap[lp]? = some (.loop rec) := (hi1.ok.fr lp hls hH2).trans hH1
    have hrl := repL_ops hi1 args.toList
    rw [hxs] at hrl
    obtain ⟨fid, tmps, asg, bd, hrun, hround⟩ := hy 0 G1 w (args.toList.map a.eval) hi1.ok.enter (hH3 ▸ hi1.ok.g) hw hrl
    unfold wpListIn
    rw [guard_spec hi1 hgu, if_pos rfl]
    refine ⟨fun _ _ => trivial, ?_⟩
    rw [noDef_at hd'.2.1]
    have hex : (execOp a.eval oy).run P w = .ok (.round lp fid tmps asg bd) w := by
      have e1 : args.map a.eval = (args.toList.map a.eval).toArray := by apply Array.toList_inj.1; simp
      rw [← e1] at hrun
      simp only [execOp, hop, resolve, Deferred.ofValue, hgr, Sem.run_bind, Sem.run_pure, Result.andThen_ok, invoke, Array.empty_append, Array.append_empty, hrun]
    rw [hex, Oper.uponIn_round]
    refine ⟨fun h => (by cases h), ?_⟩
    refine hround.mono ?_
    rintro e w' ⟨rfl, G', M', hRM, hok'⟩
    have hdo : dstOk N oy.dst = true := by rw [hdst]; exact hdN
    have hi2 := hi1.put hok'.g (hi1.ok.back hok') hdo (x := .bool true) (v := .bool true) rfl
    have hi3 : Inv K N G' ⟨(d, .bool true) :: E1, M'⟩ (a.put oy.dst (.bool true)) w' := by
      have h := hi2
      rw [hdst] at h
      rw [hdst]; exact h
    have := list_in (P := P) (ro := none) (n := 0) (ops := (l1 ++ oy :: l2).toArray) (Q := lift K N Q) (Q' := lift K N Q) (fun _ _ _ _ h => h) (lets_lift hQ) (l2 := []) (fun a w h => wpListIn_nil h) l2 _ w' hd'.2.2 (hnext M' hRM K G' _ _ hi3)
    rwa [List.append_nil] at this
theorem acodeH_yieldN {id lp : Nat} {rec : Loop} {G0 : Gh} {l : List Oper} (m : Nat) {l1 l2 : List Oper} {oy : Oper} {xs : List A} {R : List Ob → Prop} (e1 : l.take m = l1) (ho : l[m]? = some oy) (e2 : l.drop (m + 1) = l2) (hd : l.all noDef = true) (hQ : ∀ s, ¬ Q .outgrown s) (hy : YieldC P lp rec G0 xs M R)
    (h1 : AOps P N l.toArray l1 (fun e s => e = .normal ∧ s.M = M ∧ ∃ g args tys d, oy.op = .call { callee := .value g, args, argTypes := tys } ∧ opA s.E g = .yld lp ∧ args.toList.map (opA s.E) = xs ∧ guardOn l.toArray oy s.E = some true ∧ oy.dst = some d ∧ Nat.blt d N = true ∧ ∀ M', R M' → AOps P N l.toArray l2 Q ⟨(d, .bool true) :: s.E, M'⟩) ⟨E, M⟩) :
    ACodeH (HL lp rec G0) P N (.region id l.toArray false) Q ⟨E, M⟩ := by
  have e : l = l1 ++ oy :: l2 := by
    obtain ⟨hlt, he⟩ := List.getElem?_eq_some_iff.1 ho
    rw [← e1, ← e2, ← he, ← List.drop_eq_getElem_cons hlt, List.take_append_drop]
  subst e
  exact acodeH_yield hd hQ hy h1
theorem iter_of {gf : FuncId} {fn : Func} {c : Code} {cap : List A} {xs : Nat → List A} {len : Nat} (N : Nat) (hf : P.funcs[gf]? = some fn) (hb : fn.body = some c) (hN : fn.ntmps = N) (hn : Nat.ble (cap.length + 1) N = true) (hres : fn.results = #[])
    (h : ∀ (J : Nat → List Ob → Prop) (M0 : List Ob) (l : Nat) (rec : Loop) (G0 : Gh), J 0 M0 → (∀ k M, k < len → J k M → YieldC P l rec G0 (xs k) M (J (k + 1))) → ACodeH (HL l rec G0) P N c (fun e s => match e with | .ret | .normal => J len s.M | _ => False) ⟨envFrom 0 (.yld l :: cap), M0⟩) : IterC P gf cap xs len := by
  intro J M0 l rec n G w vs hJ0 ho hl hrec hY
  subst hN
  have hn : (A.yld l :: cap).length ≤ fn.ntmps := Nat.le_of_ble_eq_true hn
  have hlen := hl.length
  have h2 := h J M0 l rec G hJ0 hY
  generalize hargs : (A.yld l :: cap) = args at *
  have hlo : l ∉ keys M0 := ho.notOwn (fun c t f e => by rw [hrec] at e; cases e)
  refine calls_in (calls_of_wp hf hb (wp_mono (h2 ⟨w, keys M0, G⟩ G _ w ⟨hrec, hlo, rfl⟩ ⟨ho, ?_, rfl, ?_⟩) ?_))
  · simp; omega
  · intro t
    show Rep G (get (envFrom 0 args) t) _
    rw [get_envFrom, if_pos (Nat.zero_le _), Nat.sub_zero]
    by_cases ht : t < args.length
    · obtain ⟨v, hv, hr⟩ := hl.at t (List.getElem?_eq_getElem ht)
      have e1 : args.getD t .any = args[t] := by simp [ht]
      rw [e1]
      have hlt : t < vs.length := by omega
      have e2 : vs[t] = v := by rw [List.getElem?_eq_getElem hlt] at hv; exact Option.some.inj hv
      simp [Array.getElem?_append, hlt, e2, hr]
    · have e1 : args.getD t .any = .any := by simp [List.getElem?_eq_none (Nat.le_of_not_lt ht)]
      rw [e1]
      trivial
  · rintro e a' w' ⟨G', s, q, i⟩
    have fin : J len s.M → a'.defers = [] ∧ ∃ v, (results fn a'.tmps).run P w' = .ok v w' ∧ ∃ v_1, Ending.returned v = .returned v_1 ∧ ∃ G' M', J len M' ∧ Ok ⟨w, keys M0, G⟩ G' M' w' := by
      intro hr
      exact ⟨i.df, _, run_results0 hres, _, rfl, G', s.M, hr, i.ok⟩
    cases e with
    | normal => exact fin q
    | ret => exact fin q
    | _ => exact q.elim
end
end Go.Proofs.Ytbnhmioijeagiaa.Ab
/- Package choose in plain terms: the rules of a pick, two rows of rules held against each other. No condition. -/
set_option linter.unusedVariables false
set_option linter.unusedSimpArgs false
namespace Go.Proofs.Ytbnhmioijeagiaa.Ab
mutual
def szP : Pk → Nat
  | .tk => 0
  | .nd _ _ ks => 1 + szPs ks
def szPs : List Pk → Nat
  | [] => 0
  | k :: ks => szP k + szPs ks
end
mutual
/-- How deep a pick is. -/
def dpP : Pk → Nat
  | .tk => 0
  | .nd _ _ ks => 1 + dpPs ks
def dpPs : List Pk → Nat
  | [] => 0
  | k :: ks => max (dpP k) (dpPs ks)
end
theorem dpPs_mem : ∀ {ks : List Pk} {q : Pk}, q ∈ ks → dpP q ≤ dpPs ks
  | k :: ks, q, h => by
    rw [dpPs]
    rcases List.mem_cons.1 h with rfl | h
    · omega
    · have := dpPs_mem h; omega
theorem dpPs_le {n : Nat} : ∀ {ks : List Pk}, (∀ q ∈ ks, dpP q ≤ n) → dpPs ks ≤ n
  | [], _ => by simp [dpPs]
  | k :: ks, h => by
    have h1 := h k (by simp)
    have h2 := dpPs_le (ks := ks) fun q hq => h q (by simp [hq])
    rw [dpPs]; omega
/-- A row of picks yet to come is never long. -/
def StOk (K D : Nat) : List Pk → Prop
  | [] => True
  | x :: r => r.length ≤ K * (D - dpP x) ∧ dpP x ≤ D ∧ StOk K D r
theorem stOk_push {K D d : Nat} {r : List Pk} (hr : r.length ≤ K * (D - d)) (hd : d ≤ D) (hs : StOk K D r) : ∀ {l : List Pk}, l.length ≤ K → (∀ c ∈ l, dpP c + 1 ≤ d) → StOk K D (l ++ r)
  | [], _, _ => hs
  | c :: l, hl, hc => by
    have h1 := hc c (by simp)
    rw [List.length_cons] at hl
    refine ⟨?_, by omega, stOk_push hr hd hs (by omega) fun x hx => hc x (by simp [hx])⟩
    have h2 : K * (D - d + 1) ≤ K * (D - dpP c) := Nat.mul_le_mul_left _ (by omega)
    rw [Nat.mul_add, Nat.mul_one] at h2
    show (l ++ r).length ≤ K * (D - dpP c)
    rw [List.length_append]; omega
theorem stOk_len {K D : Nat} : ∀ {X : List Pk}, StOk K D X → X.length ≤ K * D + 1
  | [], _ => by simp
  | x :: r, h => by
    have : K * (D - dpP x) ≤ K * D := Nat.mul_le_mul_left _ (by omega)
    have := h.1
    rw [List.length_cons]; omega
theorem szPs_mem : ∀ {ks : List Pk} {q : Pk}, q ∈ ks → szP q ≤ szPs ks
  | k :: ks, q, h => by
    rw [szPs]
    rcases List.mem_cons.1 h with rfl | h
    · omega
    · have := szPs_mem h; omega
theorem szP_pos {q : Pk} (h : q.isTk = false) : 0 < szP q := by
  cases q with
  | tk => cases h
  | nd a w ks => rw [szP]; omega
theorem rulesPs_app : ∀ a b : List Pk, rulesPs (a ++ b) = rulesPs a ++ rulesPs b
  | [], b => by simp [rulesPs]
  | k :: a, b => by rw [List.cons_append, rulesPs, rulesPs, rulesPs_app a b, List.append_assoc]
theorem szPs_app : ∀ a b : List Pk, szPs (a ++ b) = szPs a + szPs b
  | [], b => by simp [szPs]
  | k :: a, b => by rw [List.cons_append, szPs, szPs, szPs_app a b]; omega
/-- Those that are no token's place. -/
def ndsP (ks : List Pk) : List Pk := ks.filter fun q => !q.isTk
theorem rulesPs_nds : ∀ ks : List Pk, rulesPs (ndsP ks) = rulesPs ks
  | [] => rfl
  | .tk :: ks => by
    have := rulesPs_nds ks
    unfold ndsP at this ⊢
    rw [List.filter_cons_of_neg (by simp [Pk.isTk]), this, rulesPs, rulesP]; rfl
  | .nd a w q :: ks => by
    have := rulesPs_nds ks
    unfold ndsP at this ⊢
    rw [List.filter_cons_of_pos (by simp [Pk.isTk]), rulesPs, rulesPs, this]
theorem szPs_nds : ∀ ks : List Pk, szPs (ndsP ks) = szPs ks
  | [] => rfl
  | .tk :: ks => by
    have := szPs_nds ks
    unfold ndsP at this ⊢
    rw [List.filter_cons_of_neg (by simp [Pk.isTk]), this, szPs, szP]; omega
  | .nd a w q :: ks => by
    have := szPs_nds ks
    unfold ndsP at this ⊢
    rw [List.filter_cons_of_pos (by simp [Pk.isTk]), szPs, szPs, this]
theorem nds_len : ∀ ks : List Pk, (ndsP ks).length ≤ szPs ks
  | [] => by simp [ndsP]
  | .tk :: ks => by
    have := nds_len ks
    unfold ndsP at this ⊢
    rw [List.filter_cons_of_neg (by simp [Pk.isTk]), szPs]; omega
  | .nd a w q :: ks => by
    have := nds_len ks
    unfold ndsP at this ⊢
    rw [List.filter_cons_of_pos (by simp [Pk.isTk]), szPs, szP, List.length_cons]; omega
theorem cmpL_self : ∀ a : List Int, cmpL a a = 0
  | [] => rfl
  | x :: a => by rw [cmpL, if_pos rfl, cmpL_self a]
theorem cmpL_app : ∀ (r a b : List Int), cmpL (r ++ a) (r ++ b) = cmpL a b
  | [], a, b => rfl
  | x :: r, a, b => by rw [List.cons_append, List.cons_append, cmpL, if_pos rfl, cmpL_app r a b]
/-- Of one rule, always as many kids that are no tokens. -/
inductive PkAr (ar : Int → Nat) : Pk → Prop
  | nd {a : Al} {w : Int} {ks : List Pk} (h8 : ks.length ≤ 1000) (h : (ndsP ks).length = ar a.rule) (hk : ∀ q ∈ ks, q.isTk = false → PkAr ar q) : PkAr ar (.nd a w ks)
/-- What lies in one place has one row of rules. -/
theorem same_len {G : Gh} {xs ys : List A} {vs vs' : List Value} (h1 : RepL G xs vs) (h2 : RepL G ys vs') (hl : xs.length = ys.length) {Z : List Value} (p1 : vs <+: Z) (p2 : vs' <+: Z) : vs = vs' := by
  have e1 := h1.length
  have e2 := h2.length
  exact List.IsPrefix.eq_of_length (List.prefix_of_prefix_length_le p1 p2 (by omega)) (by omega)
theorem pkA_enc_len (ks : List Pk) : (encs pk1 ks).length = ks.length := by rw [encs_len pk1_len]; omega
theorem repL_at {G : Gh} : ∀ {xs : List A} {vs : List Value}, RepL G xs vs → ∀ {i : Nat} {x : A}, xs[i]? = some x → ∃ v, vs[i]? = some v ∧ Rep G x v
  | [], _, _, i, x, h => by simp at h
  | y :: xs, vs, h, i, x, hx => by
    obtain ⟨v, vs', rfl, h1, h2⟩ := h
    cases i with
    | zero => simp at hx; subst hx; exact ⟨v, rfl, h1⟩
    | succ i => simpa using repL_at h2 (by simpa using hx)
theorem cells_rules {G : Gh} {n : Nat} (ih0 : ∀ {p q : Pk} {v : Value}, szP p ≤ n → Rep G (pkA p) v → Rep G (pkA q) v → rulesP p = rulesP q) {a a2 : Al} {w w2 : Int} {ks ks2 : List Pk} {vs : List Value} (hn : szPs ks ≤ n)
    (r1 : RepL G [.int .i64 a.rule, .psl a.kids.length (ints a.kids), .int .i64 w, .psl ks.length (encs pk1 ks)] vs) (r2 : RepL G [.int .i64 a2.rule, .psl a2.kids.length (ints a2.kids), .int .i64 w2, .psl ks2.length (encs pk1 ks2)] vs) : rulesP (.nd a w ks) = rulesP (.nd a2 w2 ks2) := by
  obtain ⟨u1, _, rfl, a1, u2, _, rfl, a2', u3, _, rfl, a3, u4, _, rfl, a4, _⟩ := r1
  obtain ⟨_, _, e, b1, _, _, e', b2, _, _, e'', b3, _, _, e''', b4, _⟩ := r2
  cases e; cases e'; cases e''; cases e'''
  simp only [Rep] at a1 b1
  rw [a1] at b1
  have hr : a.rule = a2.rule := by injection b1
  obtain ⟨ad, cap, es, hnc, hz, vsk, rk, hk⟩ := a4
  obtain ⟨ad', cap', es', hnc', hz', vsk', rk', hk'⟩ := b4
  rw [es] at es'
  simp only [Value.slice.injEq] at es'
  obtain ⟨rfl, hlen, rfl⟩ := es'
  have hlk : (encs pk1 ks).length = (encs pk1 ks2).length := by rw [pkA_enc_len, pkA_enc_len, hlen]
  have hvk : vsk = vsk' := by
    have l1 := rk.length
    have l2 := rk'.length
    rcases hk with hk | ⟨b, off, e, hk⟩
    · rw [hk] at l1 hlk
      have : vsk = [] := List.eq_nil_of_length_eq_zero (by simpa using l1)
      have : vsk' = [] := List.eq_nil_of_length_eq_zero (by rw [← hlk] at l2; exact l2)
      simp [*]
    · rcases hk' with hk' | ⟨b', off', e', hk'⟩
      · rw [hk'] at l2 hlk
        have : vsk' = [] := List.eq_nil_of_length_eq_zero (by simpa using l2)
        have : vsk = [] := List.eq_nil_of_length_eq_zero (by rw [hlk] at l1; exact l1)
        simp [*]
      · rw [e] at e'
        simp only [Option.some.injEq, Addr.mk.injEq, and_true] at e'
        obtain ⟨rfl, rfl⟩ := e'
        exact same_len rk rk' hlk hk hk'
  subst hvk
  have key : ∀ (l l2 : List Pk) (vs : List Value), szPs l ≤ n → RepL G (encs pk1 l) vs → RepL G (encs pk1 l2) vs → rulesPs l = rulesPs l2 := by
    intro l
    induction l with
    | nil =>
      intro l2 vs _ h1 h2
      cases l2 with
      | nil => rfl
      | cons q l2 =>
        have h1 : vs = [] := h1
        subst h1
        obtain ⟨_, _, e, _⟩ := h2
        cases e
    | cons q l ih =>
      intro l2 vs hs h1 h2
      rw [szPs] at hs
      obtain ⟨v1, vs1, rfl, c1, c2⟩ := h1
      cases l2 with
      | nil => have h2 : v1 :: vs1 = [] := h2; cases h2
      | cons q2 l2 =>
        obtain ⟨_, _, e, d1, d2⟩ := h2
        cases e
        rw [rulesPs, rulesPs, ih0 (by omega) c1 d1, ih l2 vs1 (by omega) c2 d2]
  rw [rulesP, rulesP, hr, key ks ks2 vsk (by omega) rk rk']
theorem same_rules {G : Gh} : ∀ (n : Nat) {p q : Pk} {v : Value}, szP p ≤ n → Rep G (pkA p) v → Rep G (pkA q) v → rulesP p = rulesP q
  | n, .tk, .tk, v, _, _, _ => rfl
  | n, .tk, .nd a w ks, v, _, h1, h2 => by
    rw [pkA_nd] at h2
    simp only [pkA, Rep] at h1 h2
    obtain ⟨b, off, vs, e, _⟩ := h2
    rw [h1] at e; cases e
  | n, .nd a w ks, .tk, v, _, h1, h2 => by
    rw [pkA_nd] at h1
    simp only [pkA, Rep] at h1 h2
    obtain ⟨b, off, vs, e, _⟩ := h1
    rw [h2] at e; cases e
  | 0, .nd a w ks, .nd a2 w2 ks2, v, hn, _, _ => by rw [szP] at hn; omega
  | n + 1, .nd a w ks, .nd a2 w2 ks2, v, hn, h1, h2 => by
    rw [szP] at hn
    rw [pkA_nd] at h1 h2
    simp only [Rep] at h1 h2
    obtain ⟨b, off, vs, e1, p1, r1, _⟩ := h1
    obtain ⟨b', off', vs', e2, p2, r2, _⟩ := h2
    rw [e1] at e2
    simp only [Value.pointer.injEq, Option.some.injEq, Addr.mk.injEq, and_true] at e2
    obtain ⟨rfl, rfl⟩ := e2
    have hvs := same_len r1 r2 rfl p1 p2
    subst hvs
    exact cells_rules (n := n) (fun h => same_rules n h) (by omega) r1 r2
theorem sameC_rules {a a2 : Al} {w w2 : Int} {ks ks2 : List Pk} (h : SameC [.int .i64 a.rule, .psl a.kids.length (ints a.kids), .int .i64 w, .psl ks.length (encs pk1 ks)] [.int .i64 a2.rule, .psl a2.kids.length (ints a2.kids), .int .i64 w2, .psl ks2.length (encs pk1 ks2)]) : rulesP (.nd a w ks) = rulesP (.nd a2 w2 ks2) := by
  obtain ⟨G, vs, r1, r2⟩ := h
  exact cells_rules (n := szPs ks) (fun h => same_rules _ h) (Nat.le_refl _) r1 r2
end Go.Proofs.Ytbnhmioijeagiaa.Ab
/- Package choose: a pick's kids laid upon a row: the walk. No condition. -/
set_option linter.unusedVariables false
set_option linter.unusedSimpArgs false
namespace Go.Proofs.Ytbnhmioijeagiaa.Ab
attribute [local irreducible] thenA inBlockA ACode AOps put IntKind.wrap ACodeH ACodeR

theorem back_calls {n : Nat} {cs : List A} (M : List Ob) : ACalls Try.prog 115 [.psl n cs] M (fun r M' => r = .fn 119 [.pp [.psl n cs]] ∧ M' = M) := by
  refine acalls_of_code 4 Try.func115 rfl rfl rfl ?_
  repeat (first | refine acode_seq ?_ | refine acode_region ?_)
  refine aops_boxf rfl rfl rfl rfl rfl rfl rfl ?_
  repeat (first | refine aops_end ?_ | refine aops_p tok rfl rfl rfl rfl ?_ | refine acode_seq ?_ | refine acode_region ?_)
  refine acode_ret ?_
  skip
  exact ⟨_, ⟨rfl, rfl⟩, resOf_tmp rfl⟩
theorem back_iter {ks : List Pk} (hl : ks.length ≤ 1000000) : IterC Try.prog 119 [.pp [.psl ks.length (encs pk1 ks)]] (fun k => [.int .i64 ((ks.length : Int) - 1 - k), pkA (ks.getD (ks.length - 1 - k) .tk)]) ks.length := by
  refine iter_of 19 Try.func119 rfl rfl rfl rfl fun J M0 l rec G0 hJ0 hY => ?_
  refine acodeH_seq (acodeH_of ?_)
  refine acode_region ?_
  repeat (first | refine aops_a tok rfl (by omega) (by omega) rfl rfl rfl ?_ | refine aops_p tok rfl rfl rfl rfl ?_)
  refine aops_end ?_
  refine acodeH_block ?_
  refine acodeH_loopS (ι := Nat × List Ob) (fun p => [(0, .yld l), (1, .pp [.psl ks.length (encs pk1 ks)]), (3, .int .i64 ((ks.length : Int) - 1 - p.1))]) (fun p => p.2) (fun p => ks.length - p.1) (fun p => p.1 ≤ ks.length ∧ J p.1 p.2) (0, M0) ⟨Nat.zero_le _, hJ0⟩ ⟨rfl, rfl, congrArg (A.int .i64) (by omega), trivial⟩ rfl ?_
  rintro ⟨k, M⟩ ⟨hk, hJ⟩
  simp only at hk hJ ⊢
  refine acodeH_seq ?_
  refine acodeH_seq (acodeH_of ?_)
  refine acode_region ?_
  repeat (refine aops_p tok rfl rfl rfl rfl ?_)
  refine aops_end ?_
  refine acodeH_cond rfl (fun h => ?_) (fun h => ?_)
  · have h := of_decide_eq_true h
    have hlt : k < ks.length := by omega
    obtain ⟨q, hq⟩ : ∃ q, ks[ks.length - 1 - k]? = some q := ⟨ks[ks.length - 1 - k]'(by omega), List.getElem?_eq_getElem _⟩
    have hqd : ks.getD (ks.length - 1 - k) .tk = q := by rw [List.getD_eq_getElem?_getD, hq]; rfl
    have hqa := encs_at (e := pk1) (s := 1) (fun _ => rfl) (i := ((ks.length : Int) - 1 - k).toNat) (x := q) (l := ks) (by rw [show ((ks.length : Int) - 1 - k).toNat = ks.length - 1 - k by omega]; exact hq)
    have hy := hY k M hlt hJ
    rw [hqd] at hy
    refine acodeH_of (acode_skip (then_n ?_))
    refine acodeH_seq ?_
    refine acodeH_block ?_
    refine acodeH_seq ?_
    refine acodeH_yieldN 6 rfl rfl rfl rfl (fun s h => by simp [thenA, inBlockA] at h) hy ?_
    repeat (refine aops_p tok rfl rfl rfl rfl ?_)
    refine aops_ix tok [pkA q] rfl rfl rfl rfl (by omega) (by omega) (by simp) hqa rfl rfl rfl ?_
    cases q with
    | tk =>
      rw [show pkA .tk = .nilp from rfl]
      repeat (refine aops_p tok rfl rfl rfl rfl ?_)
      refine aops_nil ⟨rfl, rfl, _, _, _, _, rfl, rfl, rfl, rfl, rfl, rfl, fun M' hM' => ?_⟩
      repeat (refine aops_p tok rfl rfl rfl rfl ?_)
      refine aops_end ?_
      refine acodeH_cond (b := false) rfl (fun h => by cases h) (fun _ => ?_)
      refine acodeH_of (acode_skip (block_n (then_n ?_)))
      refine acodeH_of (acode_region ?_)
      repeat (first | refine aops_a tok rfl (by omega) (by omega) rfl rfl rfl ?_ | refine aops_p tok rfl rfl rfl rfl ?_)
      refine aops_end ?_
      exact ⟨(k + 1, M'), ⟨by simp only; omega, hM'⟩, by simp only; omega, ⟨rfl, rfl, congrArg (A.int .i64) (by omega), trivial⟩, rfl⟩
    | nd a w q =>
      rw [pkA_nd]
      repeat (refine aops_p tok rfl rfl rfl rfl ?_)
      refine aops_nil ⟨rfl, rfl, _, _, _, _, rfl, rfl, rfl, rfl, rfl, rfl, fun M' hM' => ?_⟩
      repeat (refine aops_p tok rfl rfl rfl rfl ?_)
      refine aops_end ?_
      refine acodeH_cond (b := false) rfl (fun h => by cases h) (fun _ => ?_)
      refine acodeH_of (acode_skip (block_n (then_n ?_)))
      refine acodeH_of (acode_region ?_)
      repeat (first | refine aops_a tok rfl (by omega) (by omega) rfl rfl rfl ?_ | refine aops_p tok rfl rfl rfl rfl ?_)
      refine aops_end ?_
      exact ⟨(k + 1, M'), ⟨by simp only; omega, hM'⟩, by simp only; omega, ⟨rfl, rfl, congrArg (A.int .i64) (by omega), trivial⟩, rfl⟩
  · have h := of_decide_eq_false h
    obtain rfl : k = ks.length := by omega
    refine acodeH_of (acode_exit ?_)
    repeat (first | refine exit_then ?_ | refine exit_here ?_)
    exact hJ
/-- The row of picks as it lies: its box, what is behind. -/
abbrev rowM (rb : Nat) (ob : Option Nat) (cap : Nat) (st : List Pk) (M : List Ob) : List Ob := ⟨some rb, 1, [.own ob st.length cap]⟩ :: ⟨ob, cap * 1, encs pk1 st⟩ :: M
theorem enter_calls {a : Al} {w : Int} {ks st : List Pk} {rb cap : Nat} {ob : Option Nat} (hk : ks.length ≤ 1000) (hst : st.length ≤ 1000000) (M : List Ob) :
    ACalls Try.prog 106 [.ref rb 0, pkA (.nd a w ks)] (rowM rb ob cap st M) (fun r M' => r = .tup [] ∧ ∃ ob' cap', M' = rowM rb ob' cap' (st ++ ndsP ks.reverse) M) := by
  rw [pkA_nd]
  refine acalls_range (p1 := 11) (p2 := 12) 25 Try.func106 rfl rfl rfl rfl rfl rfl ?_
  refine acode_region ?_
  skip
  refine aops_boxo rfl rfl rfl rfl rfl rfl rfl fun b2 => ?_
  refine aops_nil ⟨rfl, ?_⟩
  refine acode_region ?_
  repeat (refine aops_p tok rfl rfl rfl rfl ?_)
  refine aops_callx Try.func115 rfl rfl rfl rfl (back_calls _) rfl rfl rfl ?_
  refine aops_nil ⟨rfl, ?_⟩
  refine ⟨_, _, _, fun k => .int .i64 ((ks.length : Int) - 1 - k), fun k => pkA (ks.getD (ks.length - 1 - k) .tk), ks.length, fun k M2 => ∃ ob' cap', M2 = ⟨some b2, 1, [.ref rb 0]⟩ :: rowM rb ob' cap' (st ++ ndsP (ks.reverse.take k)) M, ⟨ob, cap, by simp [ndsP]⟩, rfl, Try.func119, rfl, back_iter (by omega), ?_, ?_⟩
  · rintro k M2 hlt ⟨ob', cap', rfl⟩ l
    obtain ⟨q, hq⟩ : ∃ q, ks[ks.length - 1 - k]? = some q := ⟨ks[ks.length - 1 - k]'(by omega), List.getElem?_eq_getElem _⟩
    have hqd : ks.getD (ks.length - 1 - k) .tk = q := by rw [List.getD_eq_getElem?_getD, hq]; rfl
    have hqr : ks.reverse[k]? = some q := by rw [List.getElem?_reverse hlt]; exact hq
    have htk : ndsP (ks.reverse.take (k + 1)) = ndsP (ks.reverse.take k) ++ ndsP [q] := by unfold ndsP; rw [List.take_add_one, hqr, List.filter_append]; rfl
    have hlen : (ndsP (ks.reverse.take k)).length ≤ 1000 := by
      unfold ndsP
      refine Nat.le_trans (List.length_filter_le _ _) ?_
      rw [List.length_take]; omega
    simp only [hqd]
    generalize ndsP (ks.reverse.take k) = dn at *
    cases q with
    | tk =>
      rw [show ndsP [Pk.tk] = [] from rfl, List.append_nil] at htk
      rw [show pkA .tk = .nilp from rfl]
      refine acodeR_region rfl (fun s h => by cases h.1) ?_
      repeat (refine aops_p tok rfl rfl rfl rfl ?_)
      refine aops_nil ⟨rfl, rfl, ?_⟩
      refine acodeR_block ?_
      refine acodeR_seq ?_
      refine acodeR_region rfl (fun s h => by simp [thenA, inBlockA] at h) ?_
      repeat (refine aops_p tok rfl rfl rfl rfl ?_)
      refine aops_pnz tok (b := true) rfl rfl rfl rfl rfl rfl ?_
      refine aops_end ?_
      refine acodeR_cond (b := false) rfl (fun h => by cases h) (fun _ => ?_)
      refine acodeR_skip (block_n ⟨rfl, ob', cap', ?_⟩)
      rw [htk]
    | nd a2 w2 q2 =>
      rw [show ndsP [Pk.nd a2 w2 q2] = [Pk.nd a2 w2 q2] from rfl] at htk
      rw [pkA_nd]
      refine acodeR_region rfl (fun s h => by cases h.1) ?_
      repeat (refine aops_p tok rfl rfl rfl rfl ?_)
      refine aops_nil ⟨rfl, rfl, ?_⟩
      refine acodeR_block ?_
      refine acodeR_seq ?_
      refine acodeR_region rfl (fun s h => by simp [thenA, inBlockA] at h) ?_
      repeat (refine aops_p tok rfl rfl rfl rfl ?_)
      refine aops_pnz tok (b := false) rfl rfl rfl rfl rfl rfl ?_
      refine aops_end ?_
      refine acodeR_cond (b := true) rfl (fun _ => ?_) (fun h => by cases h)
      refine acodeR_drawP [⟨some b2, 1, [.ref rb 0]⟩, ⟨some rb, 1, [.own ob' (st ++ dn).length cap']⟩] 8 [0, 1, 2, 3, 4, 5, 6, 7] [7] rfl (fun s h => by simp [inBlockA] at h) mixed (by kernel_rfl) (by kernel_rfl) rfl ?_
      repeat (first | refine seqO_p tok rfl rfl rfl rfl rfl ?_ | refine seqO_ld tok 0 rfl rfl rfl rfl rfl (by simp) rfl rfl rfl rfl ?_ | refine seqO_ld tok 1 rfl rfl rfl rfl rfl (by simp) rfl rfl rfl rfl ?_)
      refine seqO_lit tok rfl rfl rfl rfl rfl rfl rfl rfl rfl ?_
      refine seqO_app tok 2 (m := 1) (ds := [.cp [.int .i64 a2.rule, .psl a2.kids.length (ints a2.kids), .int .i64 w2, .psl q2.length (encs pk1 q2)]]) rfl rfl rfl rfl (.inl rfl) rfl rfl (by rw [encs_len pk1_len]) rfl rfl rfl (by show _ * 8 ≤ _; simp; omega) (by simp; omega) (by intro y o ho; simp at ho ⊢; rcases ho with rfl | rfl <;> simp) rfl rfl rfl fun ob2 cap2 => ?_
      skip
      refine SeqO.done ?_
      refine aops_somed 22 rfl (by omega) fun c hc => ?_
      subst hc
      repeat (first | refine aops_p tok rfl rfl rfl rfl ?_ | refine aops_stn1 tok rfl rfl rfl rfl rfl rfl rfl rfl rfl ?_)
      refine aops_nil (block_n ⟨rfl, some c, cap2, ?_⟩)
      rw [htk, ← List.append_assoc]
      simp only [rowM, encs_app, List.length_append]
      rw [show encs pk1 [Pk.nd a2 w2 q2] = [pkA (.nd a2 w2 q2)] from rfl, pkA_nd]
      rfl
  · rintro M2 ⟨ob', cap', rfl⟩
    refine ⟨_, List.sublist_cons_self _ _, rfl, ob', cap', ?_⟩
    rw [List.take_of_length_le (by simp)]
end Go.Proofs.Ytbnhmioijeagiaa.Ab
/- Package choose: two picks held against each other: the walk. No condition. -/
set_option linter.unusedVariables false
set_option linter.unusedSimpArgs false
namespace Go.Proofs.Ytbnhmioijeagiaa.Ab
section
variable {P : Program} {T : List TI} {N : Nat} {ops : Array Oper} {Q : Exit → St → Prop} {E F : Env} {M : List Ob}
theorem room_of {K : Ctx} {G : Gh} {w : World} (hok : Ok K G M w) {k : Nat} {ob : Option Nat} {room : Nat} {cs : List A} (hM : M[k]? = some ⟨ob, room, cs⟩) : cs.length ≤ room := by
  have hmem := List.mem_of_getElem? hM
  cases ob with
  | none =>
    have := (hok.vn _ hmem rfl).1
    simp only at this
    rw [this]; simp
  | some b =>
    obtain ⟨vs, sp, t, _, hl, hr⟩ := hok.ow _ hmem b rfl
    have := hl.length
    simp only at hr this
    omega
theorem acode_room {c : Code} (k : Nat) {ob : Option Nat} {room : Nat} {cs : List A} (hM : M[k]? = some ⟨ob, room, cs⟩) (next : cs.length ≤ room → ACode P N c Q ⟨E, M⟩) : ACode P N c Q ⟨E, M⟩ :=
  fun K G a w hi => next (room_of hi.ok hM) K G a w hi
theorem aops_room {l : List Oper} (k : Nat) {ob : Option Nat} {room : Nat} {cs : List A} (hM : M[k]? = some ⟨ob, room, cs⟩) (next : cs.length ≤ room → AOps P N ops l Q ⟨E, M⟩) : AOps P N ops l Q ⟨E, M⟩ :=
  fun K G a w hi => next (room_of hi.ok hM) K G a w hi
theorem acalls_room {f : FuncId} {xs : List A} {R : A → List Ob → Prop} (k : Nat) {ob : Option Nat} {room : Nat} {cs : List A} (hM : M[k]? = some ⟨ob, room, cs⟩) (next : cs.length ≤ room → ACalls P f xs M R) : ACalls P f xs M R :=
  fun G w vs hok hl => next (room_of hok hM) G w vs hok hl
end
attribute [local irreducible] thenA inBlockA ACode AOps put IntKind.wrap
theorem nextnil_calls {b : Nat} {ob : Option Nat} {cap : Nat} (M : List Ob) : ACalls Try.prog 104 [.ref b 0] (rowM b ob cap [] M) (fun r M' => r = .nilp ∧ M' = rowM b ob cap [] M) := by
  refine acalls_of_code 37 Try.func104 rfl rfl rfl ?_
  repeat' (first | refine aops_end ?_ | refine aops_pbt tok rfl (by first | omega | decide) rfl rfl rfl ?_ | refine aops_p tok rfl rfl rfl rfl ?_ | refine acode_it rfl ?_ | refine aops_ld tok 0 rfl rfl rfl rfl rfl rfl rfl rfl ?_ | refine acode_seq ?_ | refine acode_region ?_)
  all_goals try (exfalso; simp at *; done)
  refine acode_ret ?_
  repeat (refine ret_then ?_)
  exact ⟨_, ⟨rfl, rfl⟩, resOf_tmp rfl⟩
theorem nextp_calls {b : Nat} {ob : Option Nat} {cap : Nat} {a : Al} {w : Int} {ks X : List Pk} (hl : X.length ≤ 1000000000) (M : List Ob) : ACalls Try.prog 104 [.ref b 0] (rowM b ob cap (Pk.nd a w ks :: X).reverse M) (fun r M' => r = pkA (.nd a w ks) ∧ M' = rowM b ob cap X.reverse M) := by
  refine acalls_room 1 rfl fun hroom => ?_
  have e1 : encs pk1 (Pk.nd a w ks :: X).reverse = encs pk1 X.reverse ++ [pkA (.nd a w ks)] := by
    rw [List.reverse_cons, encs_app]; rfl
  have hlen : (encs pk1 X.reverse).length = X.length := by rw [encs_len pk1_len, List.length_reverse]; omega
  have h := next_calls (b := b) (ob := ob) (cap := cap) (cs := encs pk1 X.reverse) (ys := [.int .i64 a.rule, .psl a.kids.length (ints a.kids), .int .i64 w, .psl ks.length (encs pk1 ks)]) (by rw [e1, List.length_append] at hroom; simpa using hroom) (by omega) M
  rw [hlen] at h
  have e2 : (Pk.nd a w ks :: X).reverse.length = X.length + 1 := by simp
  have e3 : rowM b ob cap (Pk.nd a w ks :: X).reverse M = ⟨some b, 1, [.own ob (X.length + 1) cap]⟩ :: ⟨ob, cap * 1, encs pk1 X.reverse ++ [.cp [.int .i64 a.rule, .psl a.kids.length (ints a.kids), .int .i64 w, .psl ks.length (encs pk1 ks)]]⟩ :: M := by
    unfold rowM; rw [e1, e2, pkA_nd]
  have e4 : rowM b ob cap X.reverse M = ⟨some b, 1, [.own ob X.length cap]⟩ :: ⟨ob, cap * 1, encs pk1 X.reverse⟩ :: M := by
    unfold rowM; rw [List.length_reverse]
  rw [e3, e4, pkA_nd]
  exact h
theorem nds_rev (ks : List Pk) : ndsP ks.reverse = (ndsP ks).reverse := by unfold ndsP; rw [List.filter_reverse]
theorem PkAr.isNd {ar : Int → Nat} {q : Pk} (h : PkAr ar q) : q.isTk = false := by cases h; rfl
theorem nds_all : ∀ (l : List Pk), (∀ q ∈ l, q.isTk = false) → l.length ≤ szPs l
  | [], _ => by simp
  | q :: l, h => by
    have h1 := szP_pos (h q (by simp))
    have h2 := nds_all l fun p hp => h p (by simp [hp])
    rw [List.length_cons, szPs]; omega
theorem cmpI_eq (a b : Int) : cmpI a b = cmpI' a b := rfl
set_option maxHeartbeats 8000000 in
theorem cmp_calls {ar : Int → Nat} {a b : Pk} (ha : PkAr ar a) (hb : PkAr ar b) (sa : dpP a ≤ 900) (sb : dpP b ≤ 900) (M : List Ob) : ACalls Try.prog 88 [pkA a, pkA b] M (fun r M' => r = .int .i64 (cmpL (rulesP a) (rulesP b)) ∧ M' = M) := by
  have hna : a.isTk = false := by cases ha; rfl
  have hnb : b.isTk = false := by cases hb; rfl
  obtain ⟨a1, w1, k1, rfl⟩ : ∃ x y z, a = .nd x y z := by cases a with | tk => cases hna | nd x y z => exact ⟨x, y, z, rfl⟩
  obtain ⟨a2, w2, k2, rfl⟩ : ∃ x y z, b = .nd x y z := by cases b with | tk => cases hnb | nd x y z => exact ⟨x, y, z, rfl⟩
  have hinit : cmpL (rulesPs [.nd a1 w1 k1]) (rulesPs [.nd a2 w2 k2]) = cmpL (rulesP (.nd a1 w1 k1)) (rulesP (.nd a2 w2 k2)) := by simp [rulesPs]
  generalize cmpL (rulesP (.nd a1 w1 k1)) (rulesP (.nd a2 w2 k2)) = C at *
  rw [pkA_nd, pkA_nd]
  refine acalls_of_code 62 Try.func88 rfl rfl rfl ?_
  repeat (first | refine aops_end ?_ | refine aops_p tok rfl rfl rfl rfl ?_ | refine acode_seq ?_ | refine acode_region ?_)
  refine aops_lito tok rfl rfl rfl rfl rfl rfl rfl fun o1 => ?_
  repeat (refine aops_p tok rfl rfl rfl rfl ?_)
  refine aops_lito tok rfl rfl rfl rfl rfl rfl rfl fun o2 => ?_
  repeat (refine aops_p tok rfl rfl rfl rfl ?_)
  refine aops_alloc tok rfl rfl rfl rfl rfl rfl fun b5 => ?_
  skip
  refine aops_alloc tok rfl rfl rfl rfl rfl rfl fun b6 => ?_
  repeat (first | refine aops_end ?_ | refine aops_stn tok rfl rfl rfl rfl rfl rfl rfl rfl rfl ?_ | refine aops_stn1 tok rfl rfl rfl rfl rfl rfl rfl rfl rfl ?_ | refine acode_block ?_)
  refine acode_perm (⟨some b6, 1, [.own (some o2) 1 1]⟩ :: ⟨some b5, 1, [.own (some o1) 1 1]⟩ :: ⟨some o2, 1, [.cp [.int .i64 a2.rule, .psl a2.kids.length (ints a2.kids), .int .i64 w2, .psl k2.length (encs pk1 k2)]]⟩ :: ⟨some o1, 1, [.cp [.int .i64 a1.rule, .psl a1.kids.length (ints a1.kids), .int .i64 w1, .psl k1.length (encs pk1 k1)]]⟩ :: M) (List.Perm.refl _) ?_
  have hr1 : ∀ (b : Nat) (o : Nat) (a : Al) (w : Int) (k : List Pk) (M : List Ob), rowM b (some o) 1 [.nd a w k] M = ⟨some b, 1, [.own (some o) 1 1]⟩ :: ⟨some o, 1, [.cp [.int .i64 a.rule, .psl a.kids.length (ints a.kids), .int .i64 w, .psl k.length (encs pk1 k)]]⟩ :: M := fun b o a w k M => by
    unfold rowM
    rw [show encs pk1 [Pk.nd a w k] = [pkA (.nd a w k)] from rfl, pkA_nd]
    rfl
  refine acode_perm (rowM b5 (some o1) 1 [.nd a1 w1 k1] (rowM b6 (some o2) 1 [.nd a2 w2 k2] M)) ?_ ?_
  · rw [hr1, hr1]
    exact (List.Perm.swap _ _ _).trans (.cons _ (List.perm_middle (l₁ := [_, _])))
  refine acode_loopS (ι := (List Pk × List Pk) × (Option Nat × Nat) × (Option Nat × Nat)) (fun _ => [(5, .ref b5 0), (6, .ref b6 0)]) (fun p => rowM b5 p.2.1.1 p.2.1.2 p.1.1.reverse (rowM b6 p.2.2.1 p.2.2.2 p.1.2.reverse M)) (fun p => szPs p.1.1)
    (fun p => cmpL (rulesPs p.1.1) (rulesPs p.1.2) = C ∧ p.1.1.length = p.1.2.length ∧ (∀ q ∈ p.1.1, PkAr ar q) ∧ (∀ q ∈ p.1.2, PkAr ar q) ∧ StOk 1000 900 p.1.1 ∧ StOk 1000 900 p.1.2) (([.nd a1 w1 k1], [.nd a2 w2 k2]), (some o1, 1), (some o2, 1))
    ⟨hinit, rfl, fun q h => by rw [List.mem_singleton.1 h]; exact ha, fun q h => by rw [List.mem_singleton.1 h]; exact hb, ⟨Nat.zero_le _, sa, trivial⟩, ⟨Nat.zero_le _, sb, trivial⟩⟩ ⟨rfl, rfl, trivial⟩ rfl ?_
  rintro ⟨⟨X, Y⟩, ⟨obx, capx⟩, oby, capy⟩ ⟨hC, hlen, hX, hY, hsx, hsy⟩
  simp only at hC hlen hX hY hsx hsy ⊢
  cases X with
  | nil =>
    obtain rfl : Y = [] := List.eq_nil_of_length_eq_zero hlen.symm
    repeat (first | refine acode_seq ?_ | refine acode_region ?_ | refine acode_block ?_)
    refine aops_call Try.func104 rfl rfl rfl rfl (nextnil_calls (b := b5) (ob := obx) (cap := capx) _) rfl rfl ?_
    rintro y M' ⟨rfl, rfl⟩
    repeat (refine aops_put rfl ?_)
    refine aops_perm (rowM b6 oby capy [] (rowM b5 obx capx [] M)) ?_ ?_
    · exact List.perm_append_comm_assoc [_, _] [_, _] M
    refine aops_call Try.func104 rfl rfl rfl rfl (nextnil_calls (b := b6) (ob := oby) (cap := capy) _) rfl rfl ?_
    rintro y M' ⟨rfl, rfl⟩
    repeat (first | refine aops_put rfl ?_ | refine aops_end ?_ | refine aops_p tok rfl rfl rfl rfl ?_ | refine acode_seq ?_ | refine acode_region ?_ | refine acode_block ?_)
    refine aops_pz tok (b := true) rfl rfl rfl rfl rfl rfl ?_
    repeat' (first | refine aops_end ?_ | refine aops_o rfl rfl rfl ?_ | refine aops_p tok rfl rfl rfl rfl ?_ | refine acode_it rfl ?_ | refine acode_seq ?_ | refine acode_region ?_)
    refine aops_ld tok 2 (y := .own obx 0 capx) rfl rfl rfl rfl (by rw [headed_eq]; rfl) rfl rfl rfl ?_
    repeat (first | refine aops_p tok rfl rfl rfl rfl ?_ | refine aops_ld tok 0 rfl rfl rfl rfl rfl rfl rfl rfl ?_)
    refine aops_callx Try.func105 rfl rfl rfl rfl (ccmp_calls _) rfl rfl rfl ?_
    repeat (first | refine aops_end ?_ | refine aops_p tok rfl rfl rfl rfl ?_)
    refine acode_drop0 (acode_drop0 (acode_drop0 (acode_drop0 ?_)))
    refine acode_ret ?_
    repeat (first | refine ret_then ?_ | refine ret_block ?_)
    exact ⟨.int .i64 0, ⟨by rw [← hC]; rfl, rfl⟩, resOf_tmp rfl⟩
  | cons p X =>
    cases Y with
    | nil => cases hlen
    | cons q Y =>
      obtain ⟨x1, y1, z1, rfl⟩ : ∃ x y z, p = .nd x y z := by cases hX p (by simp); exact ⟨_, _, _, rfl⟩
      obtain ⟨x2, y2, z2, rfl⟩ : ∃ x y z, q = .nd x y z := by cases hY q (by simp); exact ⟨_, _, _, rfl⟩
      have hA1 := hX _ (List.mem_cons_self)
      have hA2 := hY _ (List.mem_cons_self)
      have hl1 : X.length ≤ 1000000 := by
        have := stOk_len hsx.2.2
        omega
      have hl2 : Y.length ≤ 1000000 := by
        have := stOk_len hsy.2.2
        omega
      have hn1 := fun M => nextp_calls (b := b5) (ob := obx) (cap := capx) (a := x1) (w := y1) (ks := z1) (X := X) (by omega) M
      have hn2 := fun M => nextp_calls (b := b6) (ob := oby) (cap := capy) (a := x2) (w := y2) (ks := z2) (X := Y) (by omega) M
      have he1 := fun M => enter_calls (a := x1) (w := y1) (ks := z1) (st := X.reverse) (rb := b5) (cap := capx) (ob := obx) (by cases hA1; assumption) (by rw [List.length_reverse]; omega) M
      have he2 := fun M => enter_calls (a := x2) (w := y2) (ks := z2) (st := Y.reverse) (rb := b6) (cap := capy) (ob := oby) (by cases hA2; assumption) (by rw [List.length_reverse]; omega) M
      rw [pkA_nd] at hn1 hn2 he1 he2
      repeat (first | refine acode_seq ?_ | refine acode_region ?_ | refine acode_block ?_)
      refine aops_call Try.func104 rfl rfl rfl rfl (hn1 _) rfl rfl ?_
      rintro y M' ⟨rfl, rfl⟩
      repeat (refine aops_put rfl ?_)
      refine aops_perm (rowM b6 oby capy (Pk.nd x2 y2 z2 :: Y).reverse (rowM b5 obx capx X.reverse M)) ?_ ?_
      · exact List.perm_append_comm_assoc [_, _] [_, _] M
      refine aops_call Try.func104 rfl rfl rfl rfl (hn2 _) rfl rfl ?_
      rintro y M' ⟨rfl, rfl⟩
      repeat (first | refine aops_put rfl ?_ | refine aops_p tok rfl rfl rfl rfl ?_)
      refine aops_perm (rowM b5 obx capx X.reverse (rowM b6 oby capy Y.reverse M)) ?_ ?_
      · exact List.perm_append_comm_assoc [_, _] [_, _] M
      repeat (first | refine aops_end ?_ | refine aops_p tok rfl rfl rfl rfl ?_ | refine acode_seq ?_ | refine acode_region ?_ | refine acode_block ?_)
      refine aops_pz tok (b := false) rfl rfl rfl rfl rfl rfl ?_
      repeat (refine aops_p tok rfl rfl rfl rfl ?_)
      refine aops_pz tok (b := false) rfl rfl rfl rfl rfl rfl ?_
      repeat' (first | refine aops_end ?_ | refine aops_p tok rfl rfl rfl rfl ?_ | refine acode_if rfl ?_ | refine acode_seq ?_ | refine acode_region ?_)
      refine aops_peq tok rfl rfl rfl rfl rfl rfl rfl rfl rfl rfl fun bq hq => ?_
      cases bq with
      | true =>
        have hr := sameC_rules (hq rfl)
        repeat' (first | refine aops_end ?_ | refine aops_p tok rfl rfl rfl rfl ?_ | refine acode_it rfl ?_)
        refine acode_exit ?_
        repeat (first | refine exit_then ?_ | refine exit_here ?_ | refine exit_out rfl ?_ | refine then_n ?_)
        rw [rulesPs, rulesPs, hr, cmpL_app] at hC
        exact ⟨((X, Y), (obx, capx), oby, capy), ⟨hC, by simpa using hlen, fun q h => hX q (by simp [h]), fun q h => hY q (by simp [h]), hsx.2.2, hsy.2.2⟩, by simp only [szPs, szP]; omega, ⟨rfl, rfl, trivial⟩, rfl⟩
      | false =>
        repeat' (first | refine aops_end ?_ | refine aops_p tok rfl rfl rfl rfl ?_ | refine acode_if rfl ?_ | refine acode_seq ?_)
        refine acode_drawT 12 mixed (by kernel_rfl) (by kernel_rfl) ?_
        repeat' (first | (refine seqT_pn tok rfl rfl rfl rfl ?_ ?_ <;> intro e_) | refine seqT_p tok rfl rfl rfl rfl ?_)
        · refine SeqT.done ?_
          repeat' (first | refine aops_end ?_ | refine acode_it rfl ?_ | refine acode_seq ?_)
          refine acode_drawT 11 mixed (by kernel_rfl) (by kernel_rfl) ?_
          repeat (refine seqT_p tok rfl rfl rfl rfl ?_)
          refine seqT_call _ Try.func105 rfl rfl rfl rfl (ccmp_calls _) rfl rfl rfl ?_
          refine SeqT.done ?_
          repeat (first | refine aops_end ?_ | refine aops_p tok rfl rfl rfl rfl ?_)
          refine acode_drop0 (acode_drop0 (acode_drop0 (acode_drop0 ?_)))
          refine acode_ret ?_
          repeat (first | refine ret_then ?_ | refine ret_block ?_)
          refine ⟨.int .i64 (cmpI x1.rule x2.rule), ⟨?_, rfl⟩, resOf_tmp rfl⟩
          rw [← hC, rulesPs, rulesPs, rulesP, rulesP, List.cons_append, List.cons_append, cmpL, if_neg (by assumption), cmpI_eq]
        · refine SeqT.done ?_
          repeat' (first | refine aops_end ?_ | refine aops_p tok rfl rfl rfl rfl ?_ | refine acode_if rfl ?_ | refine acode_seq ?_ | refine acode_region ?_ | refine acode_skip ?_ | refine then_n ?_ | refine block_n ?_)
          have hre : x1.rule = x2.rule := by assumption
          refine aops_call Try.func106 rfl rfl rfl rfl (he1 _) rfl rfl ?_
          rintro y M' ⟨rfl, obx', capx', rfl⟩
          repeat (first | refine aops_put rfl ?_ | refine aops_end ?_ | refine aops_p tok rfl rfl rfl rfl ?_ | refine acode_region ?_)
          refine aops_perm (rowM b6 oby capy Y.reverse (rowM b5 obx' capx' (X.reverse ++ ndsP z1.reverse) M)) ?_ ?_
          · exact List.perm_append_comm_assoc [_, _] [_, _] M
          refine aops_call Try.func106 rfl rfl rfl rfl (he2 _) rfl rfl ?_
          rintro y M' ⟨rfl, oby', capy', rfl⟩
          refine aops_perm (rowM b5 obx' capx' (X.reverse ++ ndsP z1.reverse) (rowM b6 oby' capy' (Y.reverse ++ ndsP z2.reverse) M)) ?_ ?_
          · exact List.perm_append_comm_assoc [_, _] [_, _] M
          repeat (first | refine aops_put rfl ?_ | refine aops_endb ?_ | refine then_n ?_)
          have hx1 : X.reverse ++ ndsP z1.reverse = (ndsP z1 ++ X).reverse := by rw [nds_rev, List.reverse_append]
          have hx2 : Y.reverse ++ ndsP z2.reverse = (ndsP z2 ++ Y).reverse := by rw [nds_rev, List.reverse_append]
          rw [hx1, hx2]
          have hmem : ∀ {ar : Int → Nat} {a : Al} {w : Int} {ks : List Pk}, PkAr ar (.nd a w ks) → (ndsP ks).length = ar a.rule ∧ ∀ q ∈ ndsP ks, PkAr ar q := fun {ar a w ks} h => by
            cases h with
            | nd h8 h hk =>
              refine ⟨h, fun q hq => ?_⟩
              have := List.mem_filter.1 hq
              exact hk q this.1 (by simpa using this.2)
          obtain ⟨m1, m2⟩ := hmem hA1
          obtain ⟨m3, m4⟩ := hmem hA2
          rw [rulesPs, rulesPs, rulesP, rulesP, List.cons_append, List.cons_append, cmpL, if_pos hre, ← rulesPs_nds z1, ← rulesPs_nds z2, ← rulesPs_app, ← rulesPs_app] at hC
          have hz1 := szPs_nds z1
          have hz2 := szPs_nds z2
          have hkd : ∀ {a : Al} {w : Int} {ks : List Pk}, ∀ c ∈ ndsP ks, dpP c + 1 ≤ dpP (.nd a w ks) := fun {a w ks} c hc => by
            have := dpPs_mem (List.mem_filter.1 hc).1
            rw [dpP]; omega
          have hkl : ∀ {ks : List Pk}, ks.length ≤ 1000 → (ndsP ks).length ≤ 1000 := fun {ks} h => Nat.le_trans (List.length_filter_le _ _) h
          refine ⟨((ndsP z1 ++ X, ndsP z2 ++ Y), (obx', capx'), oby', capy'), ⟨hC, ?_, fun q h => ?_, fun q h => ?_, stOk_push hsx.1 hsx.2.1 hsx.2.2 (hkl (by cases hA1; assumption)) hkd, stOk_push hsy.1 hsy.2.1 hsy.2.2 (hkl (by cases hA2; assumption)) hkd⟩, by simp only [szPs_app, szPs, szP]; omega, ⟨rfl, rfl, trivial⟩, rfl⟩
          · simp only [List.length_append, m1, m3, hre]
            simp only [List.length_cons] at hlen
            omega
          · rcases List.mem_append.1 h with h | h
            · exact m2 q h
            · exact hX q (by simp [h])
          · rcases List.mem_append.1 h with h | h
            · exact m4 q h
            · exact hY q (by simp [h])
end Go.Proofs.Ytbnhmioijeagiaa.Ab
/- Package choose: the best of a node's picks, where no two that are held against each other have one rule: the walk. No condition. -/
set_option linter.unusedVariables false
set_option linter.unusedSimpArgs false
namespace Go.Proofs.Ytbnhmioijeagiaa.Ab
attribute [local irreducible] thenA inBlockA ACode AOps put IntKind.wrap

/-- What is asked of a row of picks: of one rule always as many kids, none too deep. -/
def RowOk (ar : Int → Nat) (l : List Pk) : Prop := ∀ p ∈ l, p.isTk = false → PkAr ar p ∧ dpP p ≤ 900
/-- How the chooser lies: its box and the rows of picks. -/
def cellsP (T : Nat → List Pk) (n : Nat) (l : List Nat) : List A := (List.range n).map fun j => if j ∈ l then .psl (T j).length (encs pk1 (T j)) else .nils
theorem cellsP_len (T : Nat → List Pk) (n : Nat) (l : List Nat) : (cellsP T n l).length = n := by simp [cellsP]
theorem cellsP_in {T : Nat → List Pk} {n : Nat} {l : List Nat} {j : Nat} (hj : j < n) (h : j ∈ l) : (cellsP T n l)[j]? = some (.psl (T j).length (encs pk1 (T j))) := by
  unfold cellsP; rw [List.getElem?_map, List.getElem?_range hj]; simp [h]
abbrev chM (g : Gr) (f : Fo) (ks : List (List Int)) (b bs : Nat) (cells : List A) (M : List Ob) : List Ob :=
  ⟨some bs, f.nodes.length * 1, cells⟩ :: ⟨some b, 11, grC g ++ foC f ++ [.mp ks, .own (some bs) f.nodes.length f.nodes.length]⟩ :: M
theorem bestS_nd {may : Int → Bool} {a1 a2 : Al} {w1 w2 : Int} {k1 k2 : List Pk} (hm : may a1.rule = true) : bestS may (.nd a2 w2 k2) (.nd a1 w1 k1) = if (decide (w1 > w2) || (decide (w1 = w2) && decide (cmpL (rulesP (.nd a1 w1 k1)) (rulesP (.nd a2 w2 k2)) < 0))) = true then .nd a1 w1 k1 else .nd a2 w2 k2 := by
  unfold bestS
  rw [show (Pk.nd a1 w1 k1).rule = a1.rule from rfl, hm]
  rfl
theorem bestS_no {may : Int → Bool} {out p : Pk} (h : (p.isTk || !may p.rule) = true) : bestS may out p = out := by
  unfold bestS; rw [if_pos h]
theorem bestS_tk {may : Int → Bool} {p : Pk} (h : p.isTk = false) (hm : may p.rule = true) : bestS may .tk p = p := by
  unfold bestS; rw [if_neg (by simp [h, hm])]; rfl
set_option maxHeartbeats 8000000 in
theorem cbest_calls {ar : Int → Nat} {g : Gr} {f : Fo} {ks : List (List Int)} {b bs : Nat} {cells : List A} {M : List Ob} {k : Nat} {l : List Pk} {cf : Nat} {cap : List A} {fn : Func} {may : Int → Bool} (hk : k < f.nodes.length) (hc : cells[k]? = some (.psl l.length (encs pk1 l))) (hl : l.length ≤ 9223372036854775807) (hd : RowOk ar l)
    (hf : Try.prog.funcs[cf]? = some fn) (hfn : callable fn = true) (hmay : ∀ p ∈ l, p.isTk = false → ACalls Try.prog cf ([.int .i64 p.rule] ++ cap) (chM g f ks b bs cells M) (fun x M' => x = .bool (may p.rule) ∧ M' = chM g f ks b bs cells M)) :
    ACalls Try.prog 52 [.ref b 0, .int .i64 k, .fn cf cap] (chM g f ks b bs cells M) (fun x M' => x = pkA (bestF may l) ∧ M' = chM g f ks b bs cells M) := by
  refine acalls_of_code 67 Try.func52 rfl rfl rfl ?_
  repeat (first | refine aops_end ?_ | refine aops_p tok rfl rfl rfl rfl ?_ | refine aops_ld tok 1 rfl rfl rfl rfl rfl rfl rfl rfl ?_ | refine acode_seq ?_ | refine acode_region ?_)
  refine aops_ixo tok rfl rfl rfl rfl (by omega) (by omega) rfl rfl rfl ?_
  refine aops_ld tok 0 (y := .psl l.length (encs pk1 l)) rfl rfl rfl rfl (by rw [headed_eq]; show cells[(k : Int).toNat * 1]? = _; rw [Nat.mul_one, Int.toNat_natCast]; exact hc) rfl rfl rfl ?_
  repeat (first | refine aops_end ?_ | refine aops_p tok rfl rfl rfl rfl ?_ | refine acode_block ?_)
  refine acode_loopS (ι := Nat × Pk) (fun q => [(0, .ref b 0), (2, .fn cf cap), (7, pkA q.2), (16, .psl l.length (encs pk1 l)), (17, .int .i64 l.length), (18, .int .i64 q.1)]) (fun _ => chM g f ks b bs cells M) (fun q => l.length - q.1) (fun q => q.1 ≤ l.length ∧ (l.drop q.1).foldl (bestS may) q.2 = bestF may l ∧ (q.2 = .tk ∨ q.2 ∈ l.take q.1)) (0, .tk) ⟨Nat.zero_le _, rfl, .inl rfl⟩ ⟨rfl, rfl, rfl, rfl, rfl, rfl, trivial⟩ rfl ?_
  rintro ⟨i, out⟩ ⟨hi, hfold, hout⟩
  simp only at hi hfold hout ⊢
  repeat (first | refine aops_end ?_ | refine aops_p tok rfl rfl rfl rfl ?_ | refine acode_seq ?_ | refine acode_region ?_)
  refine acode_id rfl (fun e => ?_) (fun e => ?_)
  · have hil : i < l.length := by omega
    obtain ⟨p, hp⟩ : ∃ p, l[i]? = some p := ⟨l[i], List.getElem?_eq_getElem hil⟩
    have hpm := List.mem_of_getElem? hp
    have hpa := encs_at (e := pk1) (s := 1) (fun _ => rfl) (i := (i : Int).toNat) (by simpa using hp)
    have hdp : l.drop i = p :: l.drop (i + 1) := by
      rw [List.drop_eq_getElem_cons hil]
      rw [List.getElem?_eq_getElem hil] at hp
      rw [Option.some.inj hp]
    have htk : l.take (i + 1) = l.take i ++ [p] := by rw [List.take_add_one, hp]; rfl
    rw [hdp, List.foldl_cons] at hfold
    have hin : ∀ (q : Pk), q = out ∨ q = p → q = .tk ∨ q ∈ l.take (i + 1) := by
      rintro q (rfl | rfl)
      · rcases hout with h | h
        · exact .inl h
        · exact .inr (by rw [htk]; simp [h])
      · exact .inr (by rw [htk]; simp)
    repeat (first | refine acode_seq ?_ | refine acode_region ?_ | refine acode_block ?_ | refine acode_skip ?_ | refine then_n ?_)
    refine aops_ix tok [pkA p] rfl rfl rfl rfl (by omega) (by omega) (by simp) hpa rfl rfl rfl ?_
    cases p with
    | tk =>
      rw [bestS_no (p := .tk) rfl] at hfold
      rw [show pkA .tk = .nilp from rfl]
      repeat (first | refine aops_end ?_ | refine aops_p tok rfl rfl rfl rfl ?_ | refine acode_seq ?_ | refine acode_region ?_)
      refine aops_pz tok (b := true) rfl rfl rfl rfl rfl rfl ?_
      repeat' (first | refine aops_end ?_ | refine aops_o rfl rfl rfl ?_ | refine aops_p tok rfl rfl rfl rfl ?_ | refine acode_it rfl ?_)
      refine acode_exit ?_
      repeat (first | refine exit_then ?_ | refine exit_here ?_ | refine then_n ?_)
      repeat (first | refine aops_end ?_ | refine aops_a tok rfl (by omega) (by omega) rfl rfl rfl ?_ | refine aops_p tok rfl rfl rfl rfl ?_ | refine acode_region ?_)
      exact ⟨(i + 1, out), ⟨by simp only; omega, hfold, hin _ (.inl rfl)⟩, by simp only; omega, ⟨rfl, rfl, rfl, rfl, rfl, rfl, trivial⟩, rfl⟩
    | nd a w q =>
      have hmay := hmay _ hpm rfl
      rw [show (Pk.nd a w q).rule = a.rule from rfl] at hmay
      rw [pkA_nd]
      repeat (first | refine aops_end ?_ | refine aops_p tok rfl rfl rfl rfl ?_ | refine acode_seq ?_ | refine acode_region ?_)
      refine aops_pz tok (b := false) rfl rfl rfl rfl rfl rfl ?_
      repeat (refine aops_p tok rfl rfl rfl rfl ?_)
      refine aops_callx hf rfl rfl hfn rfl hmay rfl rfl rfl ?_
      cases hmy : may a.rule with
      | false =>
        rw [bestS_no (p := .nd a w q) (by show (false || !may a.rule) = true; rw [hmy]; rfl)] at hfold
        repeat' (first | refine aops_end ?_ | refine aops_p tok rfl rfl rfl rfl ?_ | refine acode_it rfl ?_)
        refine acode_exit ?_
        repeat (first | refine exit_then ?_ | refine exit_here ?_ | refine then_n ?_)
        repeat (first | refine aops_end ?_ | refine aops_a tok rfl (by omega) (by omega) rfl rfl rfl ?_ | refine aops_p tok rfl rfl rfl rfl ?_ | refine acode_region ?_)
        exact ⟨(i + 1, out), ⟨by simp only; omega, hfold, hin _ (.inl rfl)⟩, by simp only; omega, ⟨rfl, rfl, rfl, rfl, rfl, rfl, trivial⟩, rfl⟩
      | true =>
        cases out with
        | tk =>
          rw [bestS_tk (p := .nd a w q) rfl hmy] at hfold
          rw [show pkA .tk = .nilp from rfl]
          repeat' (first | refine aops_end ?_ | refine aops_p tok rfl rfl rfl rfl ?_ | refine acode_if rfl ?_ | refine acode_seq ?_ | refine acode_skip ?_ | refine then_n ?_)
          refine acode_drawT 30 mixed (by kernel_rfl) (by kernel_rfl) ?_
          repeat (refine seqT_p tok rfl rfl rfl rfl ?_)
          refine seqT_pz tok (b := true) rfl rfl rfl rfl rfl rfl ?_
          repeat (first | refine seqT_o rfl rfl rfl ?_ | refine seqT_p tok rfl rfl rfl rfl ?_)
          refine SeqT.done ?_
          repeat' (first | refine aops_end ?_ | refine aops_endb ?_ | refine aops_a tok rfl (by omega) (by omega) rfl rfl rfl ?_ | refine aops_p tok rfl rfl rfl rfl ?_ | refine acode_it rfl ?_ | refine acode_region ?_ | refine then_n ?_)
          exact ⟨(i + 1, .nd a w q), ⟨by simp only; omega, hfold, hin _ (.inr rfl)⟩, by simp only; omega, ⟨rfl, rfl, by rw [pkA_nd]; rfl, rfl, rfl, rfl, trivial⟩, rfl⟩
        | nd a2 w2 q2 =>
          have hom : Pk.nd a2 w2 q2 ∈ l := by
            rcases hout with h | h
            · cases h
            · exact List.mem_of_mem_take h
          obtain ⟨hp1, hp2⟩ := hd _ hpm rfl
          obtain ⟨ho1, ho2⟩ := hd _ hom rfl
          have hcmp := fun (M : List Ob) => cmp_calls hp1 ho1 hp2 ho2 M
          rw [bestS_nd hmy] at hfold
          rw [pkA_nd, pkA_nd] at hcmp
          rw [pkA_nd]
          rcases Int.lt_trichotomy w w2 with hw | hw | hw
          · rw [if_neg (by simp; omega)] at hfold
            repeat' (first | refine aops_end ?_ | refine aops_p tok rfl rfl rfl rfl ?_ | refine acode_if rfl ?_ | refine acode_seq ?_ | refine acode_skip ?_ | refine then_n ?_)
            refine acode_drawT 30 mixed (by kernel_rfl) (by kernel_rfl) ?_
            repeat (refine seqT_p tok rfl rfl rfl rfl ?_)
            refine seqT_pz tok (b := false) rfl rfl rfl rfl rfl rfl ?_
            repeat' (first | refine seqT_o rfl rfl rfl ?_ | (refine seqT_pd tok rfl rfl rfl rfl ?_ ?_ <;> intro e_) | refine seqT_p tok rfl rfl rfl rfl ?_)
            all_goals try (exfalso; omega)
            refine SeqT.done ?_
            repeat' (first | refine aops_end ?_ | refine aops_a tok rfl (by omega) (by omega) rfl rfl rfl ?_ | refine aops_p tok rfl rfl rfl rfl ?_ | refine acode_if rfl ?_ | refine acode_region ?_ | refine acode_skip ?_ | refine then_n ?_ | refine block_n ?_)
            exact ⟨(i + 1, .nd a2 w2 q2), ⟨by simp only; omega, hfold, hin _ (.inl rfl)⟩, by simp only; omega, ⟨rfl, rfl, by rw [pkA_nd]; rfl, rfl, rfl, rfl, trivial⟩, rfl⟩
          · subst hw
            generalize cmpL (rulesP (.nd a w q)) (rulesP (.nd a2 w q2)) = cv at *
            repeat' (first | refine aops_end ?_ | refine aops_p tok rfl rfl rfl rfl ?_ | refine acode_if rfl ?_ | refine acode_seq ?_ | refine acode_skip ?_ | refine then_n ?_)
            refine acode_drawT 30 mixed (by kernel_rfl) (by kernel_rfl) ?_
            repeat (refine seqT_p tok rfl rfl rfl rfl ?_)
            refine seqT_pz tok (b := false) rfl rfl rfl rfl rfl rfl ?_
            repeat' (first | refine seqT_o rfl rfl rfl ?_ | (refine seqT_pd tok rfl rfl rfl rfl ?_ ?_ <;> intro e_) | refine seqT_p tok rfl rfl rfl rfl ?_)
            all_goals try (exfalso; omega)
            refine seqT_call _ Try.func88 rfl rfl rfl rfl (hcmp _) rfl rfl rfl ?_
            repeat' (first | (refine seqT_pd tok rfl rfl rfl rfl ?_ ?_ <;> intro e_) | refine seqT_p tok rfl rfl rfl rfl ?_)
            · rw [if_pos (by simp; omega)] at hfold
              refine SeqT.done ?_
              repeat' (first | refine aops_end ?_ | refine aops_endb ?_ | refine aops_a tok rfl (by omega) (by omega) rfl rfl rfl ?_ | refine aops_p tok rfl rfl rfl rfl ?_ | refine acode_it rfl ?_ | refine acode_region ?_ | refine then_n ?_)
              exact ⟨(i + 1, .nd a w q), ⟨by simp only; omega, hfold, hin _ (.inr rfl)⟩, by simp only; omega, ⟨rfl, rfl, by rw [pkA_nd]; rfl, rfl, rfl, rfl, trivial⟩, rfl⟩
            · rw [if_neg (by simp; omega)] at hfold
              refine SeqT.done ?_
              repeat' (first | refine aops_end ?_ | refine aops_a tok rfl (by omega) (by omega) rfl rfl rfl ?_ | refine aops_p tok rfl rfl rfl rfl ?_ | refine acode_if rfl ?_ | refine acode_region ?_ | refine acode_skip ?_ | refine then_n ?_ | refine block_n ?_)
              exact ⟨(i + 1, .nd a2 w q2), ⟨by simp only; omega, hfold, hin _ (.inl rfl)⟩, by simp only; omega, ⟨rfl, rfl, by rw [pkA_nd]; rfl, rfl, rfl, rfl, trivial⟩, rfl⟩
          · rw [if_pos (by simp; omega)] at hfold
            repeat' (first | refine aops_end ?_ | refine aops_p tok rfl rfl rfl rfl ?_ | refine acode_if rfl ?_ | refine acode_seq ?_ | refine acode_skip ?_ | refine then_n ?_)
            refine acode_drawT 30 mixed (by kernel_rfl) (by kernel_rfl) ?_
            repeat (refine seqT_p tok rfl rfl rfl rfl ?_)
            refine seqT_pz tok (b := false) rfl rfl rfl rfl rfl rfl ?_
            repeat' (first | refine seqT_o rfl rfl rfl ?_ | (refine seqT_pd tok rfl rfl rfl rfl ?_ ?_ <;> intro e_) | refine seqT_p tok rfl rfl rfl rfl ?_)
            all_goals try (exfalso; omega)
            refine SeqT.done ?_
            repeat' (first | refine aops_end ?_ | refine aops_endb ?_ | refine aops_a tok rfl (by omega) (by omega) rfl rfl rfl ?_ | refine aops_p tok rfl rfl rfl rfl ?_ | refine acode_it rfl ?_ | refine acode_region ?_ | refine then_n ?_)
            exact ⟨(i + 1, .nd a w q), ⟨by simp only; omega, hfold, hin _ (.inr rfl)⟩, by simp only; omega, ⟨rfl, rfl, by rw [pkA_nd]; rfl, rfl, rfl, rfl, trivial⟩, rfl⟩
  · obtain rfl : i = l.length := by omega
    rw [List.drop_length, List.foldl_nil] at hfold
    rw [← hfold]
    refine acode_exit ?_
    repeat (first | refine exit_then ?_ | refine exit_here ?_ | refine then_n ?_)
    cases out with
    | tk =>
      rw [show pkA .tk = .nilp from rfl]
      repeat (first | refine aops_end ?_ | refine aops_p tok rfl rfl rfl rfl ?_ | refine acode_seq ?_ | refine acode_region ?_)
      refine acode_ret ?_
      skip
      exact ⟨_, ⟨rfl, rfl⟩, resOf_tmp rfl⟩
    | nd a w q =>
      rw [pkA_nd]
      repeat (first | refine aops_end ?_ | refine aops_p tok rfl rfl rfl rfl ?_ | refine acode_seq ?_ | refine acode_region ?_)
      refine acode_ret ?_
      skip
      exact ⟨_, ⟨rfl, rfl⟩, resOf_tmp rfl⟩
end Go.Proofs.Ytbnhmioijeagiaa.Ab
/- Package choose: the pick of an Alt: the walk. No condition. -/
set_option linter.unusedVariables false
set_option linter.unusedSimpArgs false
namespace Go.Proofs.Ytbnhmioijeagiaa.Ab
attribute [local irreducible] thenA inBlockA ACode AOps put IntKind.wrap

theorem cnot_calls {g : Gr} {f : Fo} {ks : List (List Int)} {b bs b2 : Nat} {cells : List A} {M : List Ob} {a : Al} {p q : Int} (hs : SetOf g.forbid ks) :
    ACalls Try.prog 87 [.int .i64 q, .ref b2 0, .pp (alC a), .pp [.int .i64 p]] (chM g f ks b bs cells (⟨some b2, 1, [.ref b 0]⟩ :: M)) (fun x M' => x = .bool (mayP g.forbid a.rule p q) ∧ M' = chM g f ks b bs cells (⟨some b2, 1, [.ref b 0]⟩ :: M)) := by
  refine acalls_of_code 17 Try.func87 rfl rfl rfl ?_
  repeat (first | refine aops_end ?_ | refine aops_p tok rfl rfl rfl rfl ?_ | refine acode_seq ?_ | refine acode_region ?_)
  refine acode_drawT 11 mixed (by kernel_rfl) (by kernel_rfl) ?_
  refine seqT_ld tok 2 rfl rfl rfl rfl rfl rfl rfl rfl ?_
  repeat (first | refine seqT_p tok rfl rfl rfl rfl ?_ | refine seqT_ld tok 1 rfl rfl rfl rfl rfl rfl rfl rfl ?_)
  refine seqT_y (yields_look tok (k := l3 (a.rule, p, q)) rfl rfl rfl rfl hs.1 rfl rfl rfl) rfl ?_
  have hm : mayP g.forbid a.rule p q = !decide (l3 (a.rule, p, q) ∈ ks) := by
    unfold mayP
    by_cases h : (a.rule, p, q) ∈ g.forbid
    · rw [decide_eq_true h, decide_eq_true ((hs.2 (a.rule, p, q)).2 h)]
    · rw [decide_eq_false h, decide_eq_false (fun h2 => h ((hs.2 (a.rule, p, q)).1 h2))]
  repeat (refine seqT_p tok rfl rfl rfl rfl ?_)
  refine SeqT.done ?_
  repeat (first | refine aops_end ?_ | refine aops_p tok rfl rfl rfl rfl ?_)
  refine acode_ret ?_
  skip
  exact ⟨.bool (mayP g.forbid a.rule p q), ⟨rfl, rfl⟩, resOf_tmp (by rw [hm]; rfl)⟩
theorem goP_step {fb : List F3} {T : Nat → List Pk} {r : Int} {l : List Int} {p : Nat} {k w : Int} {ks : List Pk} (h : l[p]? = some k) : goP fb T r p (l.drop p) w ks = if k < 0 then goP fb T r (p + 1) (l.drop (p + 1)) w (ks ++ [.tk]) else
    if (bestF (mayP fb r p) (T k.toNat)).isTk then none else goP fb T r (p + 1) (l.drop (p + 1)) (IntKind.i64.wrap (w + (bestF (mayP fb r p) (T k.toNat)).wt)) (ks ++ [bestF (mayP fb r p) (T k.toNat)]) := by
  have e : l.drop p = k :: l.drop (p + 1) := by
    obtain ⟨h1, rfl⟩ := List.getElem?_eq_some_iff.1 h
    exact List.drop_eq_getElem_cons h1
  rw [e]; rfl
theorem perm_front {a b c d e : Ob} {M : List Ob} : (a :: b :: c :: d :: e :: M).Perm (d :: e :: c :: a :: b :: M) := by
  refine (List.perm_append_comm_assoc [a, b, c] [d, e] M).trans ?_
  exact ((List.perm_middle (l₁ := [a, b]) (a := c) (l₂ := M)).append_left [d, e])
set_option maxHeartbeats 16000000 in
theorem calt_calls {ar : Int → Nat} {g : Gr} {f : Fo} {ks : List (List Int)} {b bs : Nat} {cells : List A} {M : List Ob} {a : Al} {T : Nat → List Pk} (hs : SetOf g.forbid ks) (hal : a.kids.length ≤ 1000)
    (hk : ∀ k : Nat, (k : Int) ∈ a.kids → k < f.nodes.length ∧ cells[k]? = some (.psl (T k).length (encs pk1 (T k))) ∧ (T k).length ≤ 9223372036854775807 ∧ RowOk ar (T k)) :
    ACalls Try.prog 51 [.ref b 0, .agg (alC a)] (chM g f ks b bs cells M) (fun x M' => x = pkA (altP g T a) ∧ M' = chM g f ks b bs cells M) := by
  refine acalls_of_code 67 Try.func51 rfl rfl rfl ?_
  repeat (first | refine acode_seq ?_ | refine acode_region ?_)
  refine aops_boxo rfl rfl rfl rfl rfl rfl rfl fun b2 => ?_
  refine aops_boxf rfl rfl rfl rfl rfl rfl rfl ?_
  repeat (first | refine aops_end ?_ | refine aops_p tok rfl rfl rfl rfl ?_ | refine acode_seq ?_)
  refine acode_drawP [⟨some b2, 1, [.ref b 0]⟩, ⟨some b, 11, grC g ++ foC f ++ [.mp ks, .own (some bs) f.nodes.length f.nodes.length]⟩] 11 [0, 1, 2, 3, 4, 5, 6, 7, 8, 9, 10] [9] mixed (by kernel_rfl) (by kernel_rfl) rfl ?_
  repeat (first | refine seqO_p tok rfl rfl rfl rfl rfl ?_ | refine seqO_ld tok 0 rfl rfl rfl rfl rfl (by simp) rfl rfl rfl rfl ?_ | refine seqO_ld tok 1 rfl rfl rfl rfl rfl (by simp) rfl rfl rfl rfl ?_)
  refine seqO_call _ rfl Try.func63 rfl rfl rfl rfl (fun M => dyn_calls M) rfl rfl rfl ?_
  generalize hw0 : dynF g a.rule = w0 at *
  repeat (refine seqO_p tok rfl rfl rfl rfl rfl ?_)
  refine seqO_boxo rfl rfl rfl rfl (by simp) rfl rfl rfl rfl fun b5 => ?_
  repeat (refine seqO_p tok rfl rfl rfl rfl rfl ?_)
  refine SeqO.done ?_
  refine aops_adoptF 3 rfl rfl ?_
  refine aops_perm (chM g f ks b bs cells (⟨some b2, 1, [.ref b 0]⟩ :: ⟨some b5, 4, [.int .i64 a.rule, .psl a.kids.length (ints a.kids), .int .i64 w0, .own none 0 0]⟩ :: ⟨none, 0, []⟩ :: M)) perm_front ?_
  repeat (first | refine aops_end ?_ | refine aops_p tok rfl rfl rfl rfl ?_ | refine acode_seq ?_ | refine acode_region ?_ | refine acode_block ?_)
  have hfin : goP g.forbid T a.rule 0 a.kids w0 [] = goP g.forbid T a.rule 0 a.kids w0 [] := rfl
  generalize hgo : goP g.forbid T a.rule 0 a.kids w0 [] = fin at hfin
  refine acode_loopS (ι := Nat × Int × List Pk × Option Nat × Nat) (fun q => [(2, .ref b2 0), (3, .pp (alC a)), (5, .ref b5 0), (20, .psl a.kids.length (ints a.kids)), (21, .int .i64 a.kids.length), (22, .int .i64 q.1)]) (fun q => chM g f ks b bs cells (⟨some b2, 1, [.ref b 0]⟩ :: ⟨some b5, 4, [.int .i64 a.rule, .psl a.kids.length (ints a.kids), .int .i64 q.2.1, .own q.2.2.2.1 q.1 q.2.2.2.2]⟩ :: ⟨q.2.2.2.1, q.2.2.2.2 * 1, encs pk1 q.2.2.1⟩ :: M)) (fun q => a.kids.length - q.1) (fun q => q.1 ≤ a.kids.length ∧ goP g.forbid T a.rule q.1 (a.kids.drop q.1) q.2.1 q.2.2.1 = fin ∧ q.2.2.1.length = q.1) (0, w0, [], none, 0) ⟨Nat.zero_le _, hgo, rfl⟩ ⟨rfl, rfl, rfl, rfl, rfl, rfl, trivial⟩ rfl ?_
  rintro ⟨p, w, dn, ob, cap⟩ ⟨hp, hfold, hdn⟩
  simp only at hp hfold hdn ⊢
  repeat (first | refine aops_end ?_ | refine aops_p tok rfl rfl rfl rfl ?_ | refine acode_seq ?_ | refine acode_region ?_)
  refine acode_id rfl (fun e => ?_) (fun e => ?_)
  · have hpl : p < a.kids.length := by omega
    obtain ⟨k, hkk⟩ : ∃ k, a.kids[p]? = some k := ⟨a.kids[p], List.getElem?_eq_getElem hpl⟩
    have hkm := List.mem_of_getElem? hkk
    rw [goP_step hkk] at hfold
    repeat (first | refine aops_p tok rfl rfl rfl rfl ?_ | refine acode_seq ?_ | refine acode_region ?_ | refine acode_block ?_ | refine acode_skip ?_ | refine then_n ?_)
    refine aops_ix tok [A.int .i64 k] rfl rfl rfl rfl (by omega) (by omega) (by simp) (ints_at (j := p) (by simpa using hkk)) rfl rfl rfl ?_
    repeat (refine aops_p tok rfl rfl rfl rfl ?_)
    refine aops_alloc tok rfl rfl rfl rfl rfl rfl fun b6 => ?_
    repeat (first | refine aops_p tok rfl rfl rfl rfl ?_ | refine aops_stn tok rfl rfl rfl rfl rfl rfl rfl rfl rfl ?_)
    refine aops_pubref0 6 rfl ?_
    by_cases hk0 : k < 0
    · rw [if_pos hk0] at hfold
      repeat' (first | refine aops_end ?_ | refine aops_pbt tok rfl (by first | omega | decide) rfl rfl rfl ?_ | refine aops_p tok rfl rfl rfl rfl ?_ | refine acode_it rfl ?_ | refine acode_seq ?_ | refine acode_region ?_)
      try any_goals (exfalso; omega)
      refine aops_ld tok 3 rfl rfl rfl rfl rfl rfl rfl rfl ?_
      refine aops_litn tok rfl rfl rfl rfl rfl rfl rfl ?_
      refine aops_append tok 4 (m := 1) (ds := pk1 .tk) rfl rfl rfl (.inl rfl) rfl rfl (by rw [encs_len pk1_len, hdn]) rfl rfl rfl (by show _ * 8 ≤ _; omega) (by omega) rfl rfl fun ob' cap' => ?_
      refine aops_put rfl ?_
      refine aops_somed 35 rfl (by omega) fun c hc => ?_
      subst hc
      repeat (refine aops_p tok rfl rfl rfl rfl ?_)
      refine aops_stk tok 3 [.int .i64 a.rule, .psl a.kids.length (ints a.kids), .int .i64 w, .own (some c) (p + 1) cap'] _ rfl rfl rfl rfl rfl rfl (show 3 + 1 ≤ 4 from by decide) rfl rfl rfl rfl ?_
      refine aops_end ?_
      refine acode_exit ?_
      repeat (first | refine exit_then ?_ | refine exit_here ?_ | refine then_n ?_)
      repeat (first | refine aops_end ?_ | refine aops_a tok rfl (by omega) (by omega) rfl rfl rfl ?_ | refine aops_p tok rfl rfl rfl rfl ?_ | refine acode_region ?_)
      refine ⟨(p + 1, w, dn ++ [.tk], some c, cap'), ⟨by simp only; omega, hfold, by simp [hdn]⟩, by simp only; omega, ⟨rfl, rfl, rfl, rfl, rfl, rfl, trivial⟩, ?_⟩
      simp only [encs_app]
      rfl
    · obtain ⟨k', rfl⟩ := Int.eq_ofNat_of_zero_le (show 0 ≤ k by omega)
      rw [if_neg hk0, Int.toNat_natCast] at hfold
      obtain ⟨h1, h2, h3, h4⟩ := hk k' hkm
      have hbc := cbest_calls (g := g) (f := f) (ks := ks) (b := b) (bs := bs) (cells := cells) (M := ⟨some b2, 1, [.ref b 0]⟩ :: ⟨some b5, 4, [.int .i64 a.rule, .psl a.kids.length (ints a.kids), .int .i64 w, .own ob p cap]⟩ :: ⟨ob, cap * 1, encs pk1 dn⟩ :: M) (k := k') (l := T k') (cf := 87) (cap := [.ref b2 0, .pp (alC a), .pp [.int .i64 p]]) (may := mayP g.forbid a.rule p) h1 h2 h3 h4 Try.func87 rfl (fun q _ _ => cnot_calls hs)
      generalize bestF (mayP g.forbid a.rule p) (T k') = B at *
      repeat' (first | refine aops_end ?_ | refine aops_pbf tok rfl (by first | omega | decide) rfl rfl rfl ?_ | refine aops_p tok rfl rfl rfl rfl ?_ | refine acode_if rfl ?_ | refine acode_seq ?_ | refine acode_region ?_ | refine acode_skip ?_ | refine then_n ?_)
      try any_goals (exfalso; omega)
      refine aops_ld tok 2 rfl rfl rfl rfl rfl rfl rfl rfl ?_
      repeat (refine aops_p tok rfl rfl rfl rfl ?_)
      refine aops_callx Try.func52 rfl rfl rfl rfl hbc rfl rfl rfl ?_
      cases B with
      | tk =>
        rw [show Pk.isTk .tk = true from rfl, if_pos rfl] at hfold
        rw [show pkA .tk = .nilp from rfl]
        repeat (first | refine aops_end ?_ | refine aops_p tok rfl rfl rfl rfl ?_ | refine acode_seq ?_ | refine acode_region ?_)
        refine aops_pz tok (b := true) rfl rfl rfl rfl rfl rfl ?_
        repeat' (first | refine aops_end ?_ | refine aops_p tok rfl rfl rfl rfl ?_ | refine acode_it rfl ?_ | refine acode_seq ?_ | refine acode_region ?_)
        refine acode_drop 2 (acode_drop 2 (acode_drop 2 ?_))
        refine acode_ret ?_
        repeat (first | refine ret_then ?_ | refine ret_block ?_)
        refine ⟨.nilp, ⟨?_, rfl⟩, resOf_tmp rfl⟩
        unfold altP
        rw [hw0, hgo, ← hfold]
        rfl
      | nd a2 w2 q2 =>
        rw [if_neg (by simp [Pk.isTk]), show (Pk.nd a2 w2 q2).wt = w2 from rfl] at hfold
        rw [pkA_nd]
        repeat (first | refine aops_end ?_ | refine aops_p tok rfl rfl rfl rfl ?_ | refine acode_seq ?_ | refine acode_region ?_)
        refine aops_pz tok (b := false) rfl rfl rfl rfl rfl rfl ?_
        repeat' (first | refine aops_end ?_ | refine acode_if rfl ?_ | refine acode_seq ?_ | refine acode_skip ?_ | refine then_n ?_)
        refine acode_drawP [⟨some b5, 4, [.int .i64 a.rule, .psl a.kids.length (ints a.kids), .int .i64 w, .own ob p cap]⟩] 11 [0, 1, 2, 3, 4, 5, 6, 7, 8, 9, 10] [] mixed (by kernel_rfl) (by kernel_rfl) rfl ?_
        repeat (first | refine seqO_p tok rfl rfl rfl rfl rfl ?_ | refine seqO_ld tok 0 rfl rfl rfl rfl rfl (by simp) rfl rfl rfl rfl ?_)
        refine SeqO.done ?_
        refine aops_stk tok 3 [.int .i64 a.rule, .psl a.kids.length (ints a.kids), .int .i64 (IntKind.i64.wrap (w + w2)), .own ob p cap] _ rfl rfl rfl rfl rfl rfl (show 2 + 1 ≤ 4 from by decide) rfl rfl rfl rfl ?_
        repeat (first | refine aops_end ?_ | refine aops_p tok rfl rfl rfl rfl ?_ | refine acode_region ?_)
        refine aops_ld tok 3 rfl rfl rfl rfl rfl rfl rfl rfl ?_
        repeat (refine aops_p tok rfl rfl rfl rfl ?_)
        refine aops_litn tok rfl rfl rfl rfl rfl rfl rfl ?_
        refine aops_append tok 4 (m := 1) (ds := [.cp [.int .i64 a2.rule, .psl a2.kids.length (ints a2.kids), .int .i64 w2, .psl q2.length (encs pk1 q2)]]) rfl rfl rfl (.inl rfl) rfl rfl (by rw [encs_len pk1_len, hdn]) rfl rfl rfl (by show _ * 8 ≤ _; omega) (by omega) rfl rfl fun ob' cap' => ?_
        refine aops_put rfl ?_
        refine aops_somed 62 rfl (by omega) fun c hc => ?_
        subst hc
        repeat (refine aops_p tok rfl rfl rfl rfl ?_)
        refine aops_stk tok 3 [.int .i64 a.rule, .psl a.kids.length (ints a.kids), .int .i64 (IntKind.i64.wrap (w + w2)), .own (some c) (p + 1) cap'] _ rfl rfl rfl rfl rfl rfl (show 3 + 1 ≤ 4 from by decide) rfl rfl rfl rfl ?_
        repeat (first | refine aops_end ?_ | refine aops_endb ?_ | refine aops_a tok rfl (by omega) (by omega) rfl rfl rfl ?_ | refine aops_p tok rfl rfl rfl rfl ?_ | refine acode_region ?_ | refine then_n ?_)
        refine ⟨(p + 1, IntKind.i64.wrap (w + w2), dn ++ [.nd a2 w2 q2], some c, cap'), ⟨by simp only; omega, hfold, by simp [hdn]⟩, by simp only; omega, ⟨rfl, rfl, rfl, rfl, rfl, rfl, trivial⟩, ?_⟩
        simp only [encs_app]
        rw [show encs pk1 [Pk.nd a2 w2 q2] = [pkA (.nd a2 w2 q2)] from rfl, pkA_nd]
        rfl
  · obtain rfl : p = a.kids.length := by omega
    rw [List.drop_length] at hfold
    have hfold : some (w, dn) = fin := hfold
    refine acode_exit ?_
    repeat (first | refine exit_then ?_ | refine exit_here ?_ | refine then_n ?_)
    refine acode_perm (⟨some b5, 4, [.int .i64 a.rule, .psl a.kids.length (ints a.kids), .int .i64 w, .own ob a.kids.length cap]⟩ :: ⟨ob, cap * 1, encs pk1 dn⟩ :: ⟨some bs, f.nodes.length * 1, cells⟩ :: ⟨some b, 11, grC g ++ foC f ++ [.mp ks, .own (some bs) f.nodes.length f.nodes.length]⟩ :: ⟨some b2, 1, [.ref b 0]⟩ :: M) ?_ ?_
    · exact List.perm_append_comm_assoc [_, _, _] [_, _] M
    refine acode_pubFld (sz := 1) 3 rfl rfl (by rw [encs_len pk1_len, hdn]) (by decide) rfl ?_
    refine acode_pubcp0 5 rfl (by simp) ?_
    repeat (first | refine aops_end ?_ | refine aops_p tok rfl rfl rfl rfl ?_ | refine acode_seq ?_ | refine acode_region ?_)
    refine acode_drop 2 ?_
    refine acode_ret ?_
    skip
    refine ⟨.cp [.int .i64 a.rule, .psl a.kids.length (ints a.kids), .int .i64 w, .psl a.kids.length (encs pk1 dn)], ⟨?_, rfl⟩, resOf_tmp rfl⟩
    unfold altP
    rw [hw0, hgo, ← hfold, pkA_nd, hdn]
end Go.Proofs.Ytbnhmioijeagiaa.Ab
/- Package choose: the tree of a pick: the walk. No condition. -/
set_option linter.unusedVariables false
set_option linter.unusedSimpArgs false
namespace Go.Proofs.Ytbnhmioijeagiaa.Ab
attribute [local irreducible] thenA inBlockA ACode AOps put IntKind.wrap

inductive PkOk : Pk → Prop
  | nd {a : Al} {w : Int} {ks : List Pk} (hl : ks.length = a.kids.length) (h8 : a.kids.length ≤ 1000) (hr : ∀ k ∈ a.kids, rng k) (hk : ∀ q ∈ ks, q.isTk = false → PkOk q) : PkOk (.nd a w ks)
def tree1 (k : Int) (q : Pk) : Tr := if q.isTk then leafT k else treeP q
theorem treesP_len : ∀ (l : List Int) (ks : List Pk), ks.length = l.length → (treesP l ks).length = ks.length
  | [], [], _ => rfl
  | [], _ :: _, h => by simp at h
  | _ :: _, [], h => by simp at h
  | k :: l, .tk :: ks, h => by rw [treesP, List.length_cons, treesP_len l ks (by simpa using h)]; rfl
  | k :: l, .nd a w q :: ks, h => by rw [treesP, List.length_cons, treesP_len l ks (by simpa using h)]; rfl
theorem treesP_at : ∀ {l : List Int} {ks : List Pk} {i : Nat} {k : Int} {q : Pk}, l[i]? = some k → ks[i]? = some q → (treesP l ks)[i]? = some (tree1 k q)
  | [], _, _, _, _, h, _ => by simp at h
  | _ :: _, [], _, _, _, _, h => by simp at h
  | k :: l, q :: ks, 0, k', q', h1, h2 => by
    simp at h1 h2
    subst h1; subst h2
    cases q <;> simp [treesP, tree1, Pk.isTk]
  | k :: l, .tk :: ks, i + 1, k', q', h1, h2 => by
    rw [treesP, List.getElem?_cons_succ]; exact treesP_at (by simpa using h1) (by simpa using h2)
  | k :: l, .nd a w q :: ks, i + 1, k', q', h1, h2 => by
    rw [treesP, List.getElem?_cons_succ]; exact treesP_at (by simpa using h1) (by simpa using h2)

set_option maxHeartbeats 16000000 in
theorem ctree_calls {p : Pk} (h : PkOk p) : ∀ (M : List Ob), ACalls Try.prog 54 [pkA p] M (fun x M' => x = trA (treeP p) ∧ M' = M) := by
  induction h with
  | @nd a w ks hl h8 hr hk ih =>
  intro M
  have hT : treeP (.nd a w ks) = .mk a.rule 0 (treesP a.kids ks) := by rw [treeP]
  have htl := treesP_len a.kids ks hl
  have hat := fun {i : Nat} {k : Int} {q : Pk} (h1 : a.kids[i]? = some k) (h2 : ks[i]? = some q) => treesP_at h1 h2
  rw [hT]
  generalize treesP a.kids ks = ts at *
  rw [pkA_nd]
  show ACalls Try.prog 54 _ M (fun x M' => x = .agg [.int .i64 a.rule, .int .i64 0, .psl ts.length (encs trC ts)] ∧ M' = M)
  refine acalls_of_code 47 Try.func54 rfl rfl rfl ?_
  repeat (first | refine acode_seq ?_ | refine acode_region ?_)
  refine aops_alloc tok rfl rfl rfl rfl rfl rfl fun br => ?_
  repeat (first | refine aops_end ?_ | refine aops_p tok rfl rfl rfl rfl ?_ | refine acode_seq ?_ | refine acode_region ?_)
  refine aops_alloc tok rfl rfl rfl rfl rfl rfl fun bt => ?_
  repeat (refine aops_stn tok rfl rfl rfl rfl rfl rfl rfl rfl rfl ?_)
  refine aops_adoptF 2 rfl rfl ?_
  repeat (first | refine aops_end ?_ | refine aops_p tok rfl rfl rfl rfl ?_ | refine acode_seq ?_ | refine acode_region ?_ | refine acode_block ?_)
  refine acode_loopS (ι := Nat × Option Nat × Nat) (fun q => [(0, .cp [.int .i64 a.rule, .psl a.kids.length (ints a.kids), .int .i64 w, .psl ks.length (encs pk1 ks)]), (2, .ref br 0), (3, .ref bt 0), (15, .psl ks.length (encs pk1 ks)), (16, .int .i64 ks.length), (17, .int .i64 q.1)]) (fun q => ⟨some bt, 3, [.int .i64 a.rule, .int .i64 0, .own q.2.1 q.1 q.2.2]⟩ :: ⟨q.2.1, q.2.2 * 3, encs trC (ts.take q.1)⟩ :: ⟨some br, 3, [.int .i64 0, .int .i64 0, .nils]⟩ :: M) (fun q => ks.length - q.1) (fun q => q.1 ≤ ks.length) (0, none, 0) (Nat.zero_le _) ⟨rfl, rfl, rfl, rfl, rfl, rfl, trivial⟩ rfl ?_
  rintro ⟨i, ob, cap⟩ hi
  simp only at hi ⊢
  repeat (first | refine aops_end ?_ | refine aops_p tok rfl rfl rfl rfl ?_ | refine acode_seq ?_ | refine acode_region ?_)
  refine acode_id rfl (fun e => ?_) (fun e => ?_)
  · have hil : i < ks.length := by omega
    obtain ⟨q, hq⟩ : ∃ q, ks[i]? = some q := ⟨ks[i], List.getElem?_eq_getElem hil⟩
    obtain ⟨k, hkk⟩ : ∃ k, a.kids[i]? = some k := ⟨a.kids[i]'(by omega), List.getElem?_eq_getElem (by omega)⟩
    have hqm := List.mem_of_getElem? hq
    have hta := hat hkk hq
    have htk : ts.take (i + 1) = ts.take i ++ [tree1 k q] := by rw [List.take_add_one, hta]; rfl
    have hqa := encs_at (e := pk1) (s := 1) (fun _ => rfl) (i := (i : Int).toNat) (by simpa using hq)
    repeat (first | refine aops_p tok rfl rfl rfl rfl ?_ | refine acode_seq ?_ | refine acode_region ?_ | refine acode_block ?_ | refine acode_skip ?_ | refine then_n ?_)
    refine aops_ix tok [pkA q] rfl rfl rfl rfl (by omega) (by omega) (by simp) hqa rfl rfl rfl ?_
    cases q with
    | tk =>
      rw [show tree1 k .tk = leafT k from rfl] at htk
      rw [show pkA .tk = .nilp from rfl]
      repeat (first | refine aops_end ?_ | refine aops_p tok rfl rfl rfl rfl ?_ | refine acode_seq ?_ | refine acode_region ?_)
      refine aops_pz tok (b := true) rfl rfl rfl rfl rfl rfl ?_
      repeat' (first | refine aops_end ?_ | refine acode_it rfl ?_ | refine acode_seq ?_)
      refine acode_drawP [⟨some bt, 3, [.int .i64 a.rule, .int .i64 0, .own ob i cap]⟩] 14 [0, 1, 2, 3, 4, 5, 6, 7, 8, 9, 10, 11, 12, 13] [12] mixed (by kernel_rfl) (by kernel_rfl) rfl ?_
      repeat (first | refine seqO_p tok rfl rfl rfl rfl rfl ?_ | refine seqO_ld tok 0 rfl rfl rfl rfl rfl (by simp) rfl rfl rfl rfl ?_)
      refine seqO_ix tok [A.int .i64 k] rfl rfl rfl rfl rfl (by omega) (by omega) (by simp) (ints_at (j := i) (by simpa using hkk)) rfl rfl rfl ?_
      repeat (refine seqO_p tok rfl rfl rfl rfl rfl ?_)
      refine seqO_call _ rfl Try.func89 rfl rfl rfl rfl (fun M => leaf_calls (hr k (List.mem_of_getElem? hkk)) M) rfl rfl rfl ?_
      refine seqO_lit tok rfl rfl rfl rfl rfl rfl rfl rfl rfl ?_
      refine seqO_app tok 1 (m := 1) (ds := trC (leafT k)) rfl rfl rfl rfl (.inl (by rw [trC_eq]; rfl)) rfl rfl (by rw [encs_len trC_len, List.length_take, Nat.min_eq_left (by omega)]) (by rw [trC_len]; rfl) (by rw [trC_eq]; rfl) rfl (by show _ * 40 ≤ _; omega) (by omega) (by intro y o ho; simp at ho ⊢; simp [ho]) rfl rfl rfl fun ob' cap' => ?_
      repeat (refine seqO_p tok rfl rfl rfl rfl rfl ?_)
      refine SeqO.done ?_
      refine aops_somed 36 rfl (by omega) fun c hc => ?_
      subst hc
      refine aops_stk tok 0 [.int .i64 a.rule, .int .i64 0, .own (some c) (i + 1) cap'] _ rfl rfl rfl rfl rfl rfl (show 2 + 1 ≤ 3 from by decide) rfl rfl rfl rfl ?_
      refine aops_end ?_
      refine acode_exit ?_
      repeat (first | refine exit_then ?_ | refine exit_here ?_ | refine then_n ?_)
      repeat (first | refine aops_end ?_ | refine aops_a tok rfl (by omega) (by omega) rfl rfl rfl ?_ | refine aops_p tok rfl rfl rfl rfl ?_ | refine acode_region ?_)
      refine ⟨(i + 1, some c, cap'), by simp only; omega, by simp only; omega, ⟨rfl, rfl, rfl, rfl, rfl, rfl, trivial⟩, ?_⟩
      simp only [htk, encs_app]
      rw [show encs trC [leafT k] = trC (leafT k) by simp [encs]]
      rfl
    | nd a2 w2 q2 =>
      have hc := ih _ hqm rfl
      rw [show tree1 k (.nd a2 w2 q2) = treeP (.nd a2 w2 q2) from rfl] at htk
      rw [pkA_nd] at hc ⊢
      generalize treeP (.nd a2 w2 q2) = t at *
      repeat (first | refine aops_end ?_ | refine aops_p tok rfl rfl rfl rfl ?_ | refine acode_seq ?_ | refine acode_region ?_)
      refine aops_pz tok (b := false) rfl rfl rfl rfl rfl rfl ?_
      repeat' (first | refine aops_end ?_ | refine acode_if rfl ?_ | refine acode_skip ?_ | refine then_n ?_)
      refine acode_drawP [⟨some bt, 3, [.int .i64 a.rule, .int .i64 0, .own ob i cap]⟩] 7 [0, 1, 2, 3, 4, 5, 6] [5] mixed (by kernel_rfl) (by kernel_rfl) rfl ?_
      repeat (first | refine seqO_p tok rfl rfl rfl rfl rfl ?_ | refine seqO_ld tok 0 rfl rfl rfl rfl rfl (by simp) rfl rfl rfl rfl ?_)
      refine seqO_call _ rfl Try.func54 rfl rfl rfl rfl (fun M => hc M) rfl rfl rfl ?_
      refine seqO_lit tok rfl rfl rfl rfl rfl rfl rfl rfl rfl ?_
      refine seqO_app tok 1 (m := 1) (ds := trC t) rfl rfl rfl rfl (.inl (by rw [trC_eq]; rfl)) rfl rfl (by rw [encs_len trC_len, List.length_take, Nat.min_eq_left (by omega)]) (by rw [trC_len]; rfl) (by rw [trC_eq]; rfl) rfl (by show _ * 40 ≤ _; omega) (by omega) (by intro y o ho; simp at ho ⊢; simp [ho]) rfl rfl rfl fun ob' cap' => ?_
      repeat (refine seqO_p tok rfl rfl rfl rfl rfl ?_)
      refine SeqO.done ?_
      refine aops_somed 43 rfl (by omega) fun c hc => ?_
      subst hc
      refine aops_stk tok 0 [.int .i64 a.rule, .int .i64 0, .own (some c) (i + 1) cap'] _ rfl rfl rfl rfl rfl rfl (show 2 + 1 ≤ 3 from by decide) rfl rfl rfl rfl ?_
      repeat (first | refine aops_end ?_ | refine aops_endb ?_ | refine aops_a tok rfl (by omega) (by omega) rfl rfl rfl ?_ | refine aops_p tok rfl rfl rfl rfl ?_ | refine acode_region ?_ | refine then_n ?_)
      refine ⟨(i + 1, some c, cap'), by simp only; omega, by simp only; omega, ⟨rfl, rfl, rfl, rfl, rfl, rfl, trivial⟩, ?_⟩
      simp only [htk, encs_app]
      rw [show encs trC [t] = trC t by simp [encs]]
      rfl
  · obtain rfl : i = ks.length := by omega
    rw [List.take_of_length_le (by omega : ts.length ≤ ks.length)]
    refine acode_exit ?_
    repeat (first | refine exit_then ?_ | refine exit_here ?_ | refine then_n ?_)
    refine acode_pubFld (sz := 3) 2 rfl rfl (by rw [encs_len trC_len, htl]) (by decide) rfl ?_
    refine acode_pubref0 3 rfl ?_
    repeat (first | refine aops_end ?_ | refine aops_p tok rfl rfl rfl rfl ?_ | refine aops_stn tok rfl rfl rfl rfl rfl rfl rfl rfl rfl ?_ | refine acode_seq ?_ | refine acode_region ?_)
    refine acode_pubref0 2 rfl ?_
    refine acode_ret ?_
    skip
    exact ⟨.agg [.int .i64 a.rule, .int .i64 0, .psl ts.length (encs trC ts)], ⟨rfl, rfl⟩, resOf_pp tok rfl rfl (by rw [htl]; rfl)⟩
end Go.Proofs.Ytbnhmioijeagiaa.Ab
/- Where ways meet again in one of many states; calls that change objects in drawn regions. No condition. -/
set_option linter.unusedVariables false
set_option linter.unusedSimpArgs false
namespace Go.Proofs.Ytbnhmioijeagiaa.Ab
section
variable {P : Program} {T : List TI} {N : Nat} {ops : Array Oper} {rest : List Oper} {o : Oper} {Q : Exit → St → Prop} {E F : Env} {M : List Ob}
/-- Where ways meet again: one of a family of states. -/
theorem acode_joinI {ι : Type} {c y : Code} {Q2 : Exit → St → Prop} {st : St} (S : ι → Env) (L : ι → List Ob) (I : ι → Prop) (hx : ACode P N c (thenA (fun s => ∃ i, I i ∧ subE (S i) s.E ∧ s.M = L i) Q) st) (hy : ∀ i, I i → ACode P N y Q2 ⟨S i, L i⟩) : ACode P N c (thenA (ACode P N y Q2) Q) st := by
  refine hx.mono ?_
  rintro e ⟨E1, M1⟩ h
  cases e with
  | normal =>
    obtain ⟨i, h0, h1, h2⟩ := h
    simp only at h1 h2
    subst h2
    exact acode_sub (S i) h1 (hy i h0)
  | _ => exact h
/-- Numbers out of a natural one. -/
def decI (n : Nat) : Int := if n % 2 = 0 then ((n / 2 : Nat) : Int) else -(((n / 2 : Nat) : Int)) - 1
theorem decI_surj (i : Int) : ∃ n, decI n = i := by
  by_cases h : 0 ≤ i
  · refine ⟨2 * i.toNat, ?_⟩
    unfold decI
    rw [if_pos (by omega), Nat.mul_div_cancel_left _ (by decide)]
    omega
  · refine ⟨2 * (-i - 1).toNat + 1, ?_⟩
    unfold decI
    rw [if_neg (by omega)]
    omega
theorem decL_surj (l : List Int) : ∃ z : List Nat, z.map decI = l := by
  induction l with
  | nil => exact ⟨[], rfl⟩
  | cons i l ih =>
    obtain ⟨z, rfl⟩ := ih
    obtain ⟨n, rfl⟩ := decI_surj i
    exact ⟨n :: z, rfl⟩
/-- A row of numbers of which something holds, by a row of natural ones. -/
theorem decP (p : List Int → Prop) {l0 : List Int} (h0 : p l0) : ∃ d : List Nat → List Int, (∀ z, p (d z)) ∧ ∀ l, p l → ∃ z, d z = l := by
  classical
  refine ⟨fun z => if p (z.map decI) then z.map decI else l0, fun z => ?_, fun l hl => ?_⟩
  · show p (if _ then _ else _)
    split
    · assumption
    · exact h0
  · obtain ⟨z, rfl⟩ := decL_surj l
    exact ⟨z, if_pos hl⟩
/-- A call that changes objects, in a drawn region. -/
theorem seqO_callw {kp : List Ob} {al : List Nat} {i : Nat} {ll : List Oper} {n d : Nat} {g : Operand} {args : Array Operand} {tys : Array TypeId} {f : FuncId} {cap aS : List A} {fn : Func} (x : List Nat → A) (M2 : List Nat → List Ob) (hi : al.contains i = true) (hf : P.funcs[f]? = some fn) (ho : o.op = .call { callee := .value g, args, argTypes := tys }) (hgv : opA F g = .fn f cap)
    (hfn : callable fn = true) (has : args.toList.map (opA F) ++ cap = aS) (hc : ACalls P f aS M (fun r M' => ∃ z, r = x z ∧ M' = M2 z)) (hkp : ∀ z, ∀ o ∈ kp, o ∈ M2 z) (hg : guardOn ops o F = some true) (hd : o.dst = some d) (hN : Nat.blt d N = true)
    (next : ∀ z, SeqO P N ops Q kp al (i + 1) ((d, x z) :: F) (M2 z) n ll) : SeqO P N ops Q kp al i F M (n + 1) (o :: ll) := by
  refine SeqO.make (x := x) (M2 := M2) hi (fun E hE rest Q next => ?_) hkp fun b => ?_
  · refine aops_call hf ho ((agree_op hE (by rw [ho]; simp [Op.operands, Call.operands])).trans hgv) hfn (by rw [map_congr_ops (E := E) (F := F) (fun y hy => agree_op hE (by rw [ho]; simp [Op.operands, Call.operands, hy]))]; exact has) hc ((agree_guard hE).trans hg) (by rw [hd]; exact hN) ?_
    rintro y M' ⟨z, rfl, rfl⟩
    exact next z
  · rw [hd]; exact next b
theorem yields_quo {t t' : Nat} {x y : Operand} {a b : Int} (ho : o.op = .binOp .quo t x y t') (hx : opA F x = .int .i64 a) (hy : opA F y = .int .i64 b) (ha : 0 ≤ a) (ha' : a ≤ 9223372036854775807) (hb : 0 < b) (hg : guardOn ops o F = some true) {d : Nat} (hd : o.dst = some d) (hN : Nat.blt d N = true) : Yields P N ops o (.int .i64 (a / b)) F M := by
  intro E hE rest Q next
  rw [hd] at next
  exact aops_quo ho ((agree_op hE (by rw [ho]; simp [Op.operands])).trans hx) ((agree_op hE (by rw [ho]; simp [Op.operands])).trans hy) ha ha' hb ((agree_guard hE).trans hg) hd hN next
theorem seqO_quo {kp : List Ob} {al : List Nat} {i : Nat} {ll : List Oper} {m : Nat} {d t t' : Nat} {x y : Operand} {a b : Int} (hi : al.contains i = false) (ho : o.op = .binOp .quo t x y t') (hx : opA F x = .int .i64 a) (hy : opA F y = .int .i64 b) (ha : 0 ≤ a) (ha' : a ≤ 9223372036854775807) (hb : 0 < b) (hg : guardOn ops o F = some true) (hd : o.dst = some d) (hN : Nat.blt d N = true)
    (next : SeqO P N ops Q kp al (i + 1) ((d, .int .i64 (a / b)) :: F) M m ll) : SeqO P N ops Q kp al i F M (m + 1) (o :: ll) :=
  seqO_y hi (fun M' => yields_quo ho hx hy ha ha' hb hg hd hN) hd next
/-- A nil argument, taken as one's own slice of nothing. -/
theorem acalls_nil0 {f : FuncId} {xs ys : List A} {R : A → List Ob → Prop} (h : ∀ (G : Gh) vs, RepL G xs vs → RepL G ys vs) (hc : ACalls P f ys (⟨none, 0, []⟩ :: M) R) : ACalls P f xs M R := by
  intro G w vs hok hl
  refine hc G w vs ?_ (h G vs hl)
  refine ⟨hok.g, hok.os, hok.tape, hok.output, hok.size, hok.fr, hok.fz, ?_, ?_, ?_, ?_, hok.nd, hok.mz, hok.um, hok.wt⟩
  · intro o ho b hb
    rcases List.mem_cons.1 ho with rfl | ho
    · cases hb
    · exact hok.ow o ho b hb
  · intro o ho hb
    rcases List.mem_cons.1 ho with rfl | ho
    · exact ⟨rfl, rfl⟩
    · exact hok.vn o ho hb
  · intro o ho b hb
    rcases List.mem_cons.1 ho with rfl | ho
    · cases hb
    · exact hok.un o ho b hb
  · intro o ho b hb
    rcases List.mem_cons.1 ho with rfl | ho
    · cases hb
    · exact hok.kb o ho b hb
theorem rep_nils_own (G : Gh) {v : Value} (h : Rep G .nils v) : Rep G (.own none 0 0) v := by
  simp only [Rep] at h ⊢; exact ⟨h, trivial, trivial⟩
/-- A temporary's nil slices told as empty ones. -/
theorem aops_softt {l : List Oper} (t : Nat) {y : A} (h : soft (get E t) = y) (next : AOps P N ops l Q ⟨(t, y) :: E, M⟩) : AOps P N ops l Q ⟨E, M⟩ :=
  aops_weaken (st' := ⟨(t, y) :: E, M⟩) (fun K G a w hi => ⟨G, inv_E hi fun s v hv => by
    simp only [get]
    cases hb : Nat.beq t s with
    | true =>
      obtain rfl := Nat.eq_of_beq_eq_true hb
      rw [← h]; exact soft_rep _ _ hv
    | false => exact hv⟩) next
end
end Go.Proofs.Ytbnhmioijeagiaa.Ab
/- Package choose: Best, where no two picks of a node weigh the same: the walk. No condition. -/
set_option linter.unusedVariables false
set_option linter.unusedSimpArgs false
namespace Go.Proofs.Ytbnhmioijeagiaa.Ab
attribute [local irreducible] thenA inBlockA ACode AOps put IntKind.wrap

theorem goP_kids {fb : List F3} {T : Nat → List Pk} {r : Int} : ∀ {l : List Int} {p : Nat} {w : Int} {ks : List Pk} {w' : Int} {ks' : List Pk}, goP fb T r p l w ks = some (w', ks') → ks'.length = ks.length + l.length ∧ ∀ q ∈ ks', q ∈ ks ∨ q.isTk = true ∨ ∃ k : Nat, (k : Int) ∈ l ∧ q ∈ T k
  | [], p, w, ks, w', ks', h => by
    simp only [goP, Option.some.injEq, Prod.mk.injEq] at h
    obtain ⟨_, rfl⟩ := h
    exact ⟨by simp, fun q hq => .inl hq⟩
  | k :: l, p, w, ks, w', ks', h => by
    simp only [goP] at h
    split at h
    · obtain ⟨h1, h2⟩ := goP_kids h
      refine ⟨by rw [h1]; simp; omega, fun q hq => ?_⟩
      rcases h2 q hq with h3 | h3 | ⟨k', h3, h4⟩
      · rcases List.mem_append.1 h3 with h5 | h5
        · exact .inl h5
        · rw [List.mem_singleton.1 h5]; exact .inr (.inl rfl)
      · exact .inr (.inl h3)
      · exact .inr (.inr ⟨k', by simp [h3], h4⟩)
    · rename_i hk0
      split at h
      · cases h
      · rename_i hb
        obtain ⟨h1, h2⟩ := goP_kids h
        refine ⟨by rw [h1]; simp; omega, fun q hq => ?_⟩
        rcases h2 q hq with h3 | h3 | ⟨k', h3, h4⟩
        · rcases List.mem_append.1 h3 with h5 | h5
          · exact .inl h5
          · rw [List.mem_singleton.1 h5]
            exact .inr (.inr ⟨k.toNat, by rw [Int.toNat_of_nonneg (by omega)]; simp, (best_in (by simpa using hb)).1⟩)
        · exact .inr (.inl h3)
        · exact .inr (.inr ⟨k', by simp [h3], h4⟩)
theorem pk_ok {g : Gr} {f : Fo} (h8 : ∀ i, ∀ a ∈ altsOf f i, a.kids.length ≤ 1000 ∧ ∀ k ∈ a.kids, rng k) {i : Nat} (hw : WF f i) : ∀ p ∈ pkT g f i, p.isTk = false → PkOk p := by
  induction hw with
  | @mk i hi hk hs ih =>
    intro p hp hpt
    rw [pkT_eq (.mk hi hk hs)] at hp
    obtain ⟨a, ha, rfl⟩ := List.mem_map.1 hp
    obtain ⟨h1, h2⟩ := h8 i a ha
    unfold altP at hpt ⊢
    cases hgo : goP g.forbid (pkT g f) a.rule 0 a.kids (dynF g a.rule) [] with
    | none => rw [hgo] at hpt; cases hpt
    | some x =>
      obtain ⟨w, ks⟩ := x
      obtain ⟨h3, h4⟩ := goP_kids hgo
      refine .nd (by simpa using h3) h1 h2 fun q hq hqt => ?_
      rcases h4 q hq with h5 | h5 | ⟨k, h5, h6⟩
      · cases h5
      · rw [h5] at hqt; cases hqt
      · exact ih k ⟨a, ha, h5⟩ q h6 hqt
theorem cellsP_out {T : Nat → List Pk} {n : Nat} {l : List Nat} {j : Nat} (hj : j < n) (h : j ∉ l) : (cellsP T n l)[j]? = some .nils := by
  simp [cellsP, List.getElem?_range hj, h]
theorem cellsP_add {T : Nat → List Pk} {n : Nat} {l : List Nat} {j : Nat} : (cellsP T n l).set j (.psl (T j).length (encs pk1 (T j))) = cellsP T n (l ++ [j]) := by
  refine List.ext_getElem? fun k => ?_
  rw [List.getElem?_set]
  by_cases hk : k < n
  · by_cases h : j = k
    · subst h
      rw [if_pos rfl, cellsP_len, if_pos hk, cellsP_in hk (by simp)]
    · have : k ≠ j := fun e => h e.symm
      rw [if_neg h]
      by_cases hl : k ∈ l
      · rw [cellsP_in hk hl, cellsP_in hk (by simp [hl])]
      · rw [cellsP_out hk hl, cellsP_out hk (by simp [hl, this])]
  · have e1 : (cellsP T n l)[k]? = none := List.getElem?_eq_none (by rw [cellsP_len]; omega)
    have e2 : (cellsP T n (l ++ [j]))[k]? = none := List.getElem?_eq_none (by rw [cellsP_len]; omega)
    rw [e1, e2, cellsP_len]
    by_cases h : j = k
    · rw [if_pos h, if_neg (by omega)]
    · rw [if_neg h]
theorem cellsP_nil (T : Nat → List Pk) (n : Nat) : cellsP T n [] = List.replicate n .nils := by
  unfold cellsP
  simp only [List.not_mem_nil, if_false]
  rw [List.map_const', List.length_range]
theorem cset_at {cells : List A} {i k : Nat} {x y : A} (h : cells[k]? = some y) (hne : i ≠ k) : (cells.set i x)[k]? = some y := by
  rw [List.getElem?_set, if_neg hne]; exact h
theorem cset_same {cells : List A} {i : Nat} {x : A} (h : i < cells.length) : (cells.set i x)[i]? = some x := by
  rw [List.getElem?_set, if_pos rfl, if_pos h]
theorem ctopo_next {f : Fo} {l : List Nat} (ht : Topo f l) {p i : Nat} (h : l[p]? = some i) : i ∉ l.take p ∧ ∀ k : Nat, Kid f i k → k ∈ l.take p := by
  have e : l = l.take p ++ i :: l.drop (p + 1) := by
    obtain ⟨h1, h2⟩ := List.getElem?_eq_some_iff.1 h
    rw [← h2, ← List.drop_eq_getElem_cons h1, List.take_append_drop]
  exact (ht.pre e).2
theorem cnums_at {l : List Nat} {p i : Nat} (h : l[p]? = some i) : (nums l)[p]? = some (i : Int) := by simp [nums, h]
theorem all1_calls {r : Int} (M : List Ob) : ACalls Try.prog 53 ([.int .i64 r] ++ []) M (fun x M' => x = .bool ((fun _ => true) r) ∧ M' = M) := by
  refine acalls_of_code 3 Try.func53 rfl rfl rfl ?_
  repeat (first | refine aops_end ?_ | refine aops_p tok rfl rfl rfl rfl ?_ | refine acode_seq ?_ | refine acode_region ?_)
  refine acode_ret ?_
  skip
  exact ⟨_, ⟨rfl, rfl⟩, resOf_tmp rfl⟩
abbrev noP : A := .agg [.int .i64 0, .int .i64 0, .nils]
/-- A forest that is none has no best tree. -/
theorem chbest_none {g : Gr} {f : Fo} (hf : FoOk f) (hF : ¬ FForm f) (M : List Ob) : ACalls Try.prog 18 [grA g, foA f] M (fun x M' => x = .tup [noP, .int .i64 1] ∧ M' = M) := by
  refine acalls_of_code 89 Try.func18 rfl rfl rfl ?_
  repeat (first | refine acode_seq ?_ | refine acode_region ?_)
  refine aops_boxf rfl rfl rfl rfl rfl rfl rfl ?_
  refine aops_boxf rfl rfl rfl rfl rfl rfl rfl ?_
  refine aops_alloc tok rfl rfl rfl rfl rfl rfl fun br => ?_
  repeat (first | refine aops_end ?_ | refine aops_p tok rfl rfl rfl rfl ?_ | refine acode_seq ?_ | refine acode_region ?_)
  refine aops_call Try.func47 rfl rfl rfl rfl (order_calls hf _) rfl rfl ?_
  rintro x M' ⟨hM, hx⟩
  rw [hM]
  rcases hx with ⟨h, _⟩ | ⟨_, rfl⟩
  · exact absurd h hF
  repeat' (first | refine aops_put rfl ?_ | refine aops_end ?_ | refine aops_o rfl rfl rfl ?_ | refine aops_p tok rfl rfl rfl rfl ?_ | refine acode_it rfl ?_ | refine aops_stn tok rfl rfl rfl rfl rfl rfl rfl rfl rfl ?_ | refine acode_seq ?_ | refine acode_region ?_)
  refine acode_pubref0 4 rfl ?_
  refine acode_ret ?_
  repeat (refine ret_then ?_)
  exact ⟨_, ⟨rfl, rfl⟩, _, _, rfl, resOf_pp tok rfl rfl rfl, resOf_tmp rfl⟩
/-- A forest that is not the grammar's, or a grammar that is none. -/
theorem chbest_bad {g : Gr} {f : Fo} (hg : GrOk g) (hf : FoOk f) (hF : FForm f) (hb : (formF g).2 ≠ 0 ∨ wholeB g f = false) (M : List Ob) : ACalls Try.prog 18 [grA g, foA f] M (fun x M' => x = .tup [noP, .int .i64 1] ∧ M' = M) := by
  have hgc := good_calls hg
  have hwc := chwhole_calls hg hf hF
  refine acalls_of_code 89 Try.func18 rfl rfl rfl ?_
  repeat (first | refine acode_seq ?_ | refine acode_region ?_)
  refine aops_boxf rfl rfl rfl rfl rfl rfl rfl ?_
  refine aops_boxf rfl rfl rfl rfl rfl rfl rfl ?_
  refine aops_alloc tok rfl rfl rfl rfl rfl rfl fun br => ?_
  repeat (first | refine aops_end ?_ | refine aops_p tok rfl rfl rfl rfl ?_ | refine acode_seq ?_ | refine acode_region ?_)
  refine aops_call Try.func47 rfl rfl rfl rfl (order_calls hf _) rfl rfl ?_
  rintro x M' ⟨hM, hx⟩
  rw [hM]
  rcases hx with ⟨_, l, rfl, ht, hall⟩ | ⟨h, _⟩
  rotate_left
  · exact absurd hF h
  by_cases hfo : (formF g).2 = 0
  · have hwh : wholeB g f = false := by
      rcases hb with h | h
      · exact absurd hfo h
      · exact h
    rw [decide_eq_true hfo] at hgc
    rw [hwh] at hwc
    repeat (first | refine aops_put rfl ?_ | refine aops_end ?_ | refine aops_p tok rfl rfl rfl rfl ?_ | refine acode_seq ?_ | refine acode_region ?_)
    refine aops_callx Try.func48 rfl rfl rfl rfl (hgc _) rfl rfl rfl ?_
    repeat (refine aops_p tok rfl rfl rfl rfl ?_)
    refine aops_callx Try.func49 rfl rfl rfl rfl (hwc _) rfl rfl rfl ?_
    repeat' (first | refine aops_end ?_ | refine aops_p tok rfl rfl rfl rfl ?_ | refine acode_it rfl ?_ | refine aops_stn tok rfl rfl rfl rfl rfl rfl rfl rfl rfl ?_ | refine acode_seq ?_ | refine acode_region ?_)
    refine acode_pubref0 4 rfl ?_
    refine acode_ret ?_
    repeat (refine ret_then ?_)
    exact ⟨_, ⟨rfl, rfl⟩, _, _, rfl, resOf_pp tok rfl rfl rfl, resOf_tmp rfl⟩
  · rw [decide_eq_false hfo] at hgc
    repeat (first | refine aops_put rfl ?_ | refine aops_end ?_ | refine aops_p tok rfl rfl rfl rfl ?_ | refine acode_seq ?_ | refine acode_region ?_)
    refine aops_callx Try.func48 rfl rfl rfl rfl (hgc _) rfl rfl rfl ?_
    repeat' (first | refine aops_end ?_ | refine aops_o rfl rfl rfl ?_ | refine aops_p tok rfl rfl rfl rfl ?_ | refine acode_it rfl ?_ | refine aops_stn tok rfl rfl rfl rfl rfl rfl rfl rfl rfl ?_ | refine acode_seq ?_ | refine acode_region ?_)
    refine acode_pubref0 4 rfl ?_
    refine acode_ret ?_
    repeat (refine ret_then ?_)
    exact ⟨_, ⟨rfl, rfl⟩, _, _, rfl, resOf_pp tok rfl rfl rfl, resOf_tmp rfl⟩
/-- What Best answers of a forest that is a grammar's. -/
noncomputable def bestR (g : Gr) (f : Fo) : A := if (bestF (fun _ => true) (pkT g f f.root.toNat)).isTk then .tup [noP, .int .i64 11] else .tup [trA (treeP (bestF (fun _ => true) (pkT g f f.root.toNat))), .int .i64 0]
set_option maxHeartbeats 32000000 in
theorem chbest_calls {ar : Int → Nat} {g : Gr} {f : Fo} (hg : GrOk g) (hfo : (formF g).2 = 0) (hf : FoOk f) (hF : FForm f) (hwh : wholeB g f = true) (h8 : ∀ i, ∀ a ∈ altsOf f i, a.kids.length ≤ 1000 ∧ ∀ k ∈ a.kids, rng k)
    (hD : ∀ i, i < f.nodes.length → RowOk ar (pkT g f i)) (M : List Ob) :
    ACalls Try.prog 18 [grA g, foA f] M (fun x M' => x = bestR g f ∧ M' = M) := by
  obtain ⟨hf1, hf2⟩ := id hf
  obtain ⟨⟨h0, h1⟩, hw⟩ := id hF
  have hgc := good_calls hg
  rw [decide_eq_true hfo] at hgc
  have hwc := chwhole_calls hg hf hF
  rw [hwh] at hwc
  refine acalls_of_code 89 Try.func18 rfl rfl rfl ?_
  repeat (first | refine acode_seq ?_ | refine acode_region ?_)
  refine aops_boxf rfl rfl rfl rfl rfl rfl rfl ?_
  refine aops_boxf rfl rfl rfl rfl rfl rfl rfl ?_
  refine aops_alloc tok rfl rfl rfl rfl rfl rfl fun br => ?_
  repeat (first | refine aops_end ?_ | refine aops_p tok rfl rfl rfl rfl ?_ | refine acode_seq ?_ | refine acode_region ?_)
  refine aops_call Try.func47 rfl rfl rfl rfl (order_calls hf _) rfl rfl ?_
  rintro x M' ⟨hM, hx⟩
  rw [hM]
  rcases hx with ⟨_, l, rfl, ht, hall⟩ | ⟨h, _⟩
  rotate_left
  · exact absurd hF h
  have hs := setF_of g.forbid
  repeat (first | refine aops_put rfl ?_ | refine aops_end ?_ | refine aops_p tok rfl rfl rfl rfl ?_ | refine acode_seq ?_ | refine acode_region ?_)
  refine aops_callx Try.func48 rfl rfl rfl rfl (hgc _) rfl rfl rfl ?_
  repeat (refine aops_p tok rfl rfl rfl rfl ?_)
  refine aops_callx Try.func49 rfl rfl rfl rfl (hwc _) rfl rfl rfl ?_
  repeat' (first | refine aops_end ?_ | refine aops_p tok rfl rfl rfl rfl ?_ | refine acode_if rfl ?_ | refine acode_seq ?_ | refine acode_skip ?_ | refine then_n ?_)
  refine acode_drawP [] 11 [0, 1, 2, 3, 4, 5, 6, 7, 8, 9, 10] [7, 9] mixed (by kernel_rfl) (by kernel_rfl) rfl ?_
  repeat (refine seqO_p tok rfl rfl rfl rfl rfl ?_)
  refine seqO_call _ rfl Try.func50 rfl rfl rfl rfl (fun M' => fset_calls (by have := hg.fo; omega) M') rfl rfl rfl ?_
  generalize setF g.forbid = ks at *
  repeat (refine seqO_p tok rfl rfl rfl rfl rfl ?_)
  refine seqO_mk tok f.nodes.length rfl rfl rfl rfl rfl rfl rfl (by show _ * 24 ≤ _; omega) (by omega) (by simp) rfl rfl rfl fun bs => ?_
  repeat (refine seqO_p tok rfl rfl rfl rfl rfl ?_)
  refine seqO_boxo rfl rfl rfl rfl (by simp) rfl rfl rfl rfl fun b => ?_
  repeat (refine seqO_p tok rfl rfl rfl rfl rfl ?_)
  refine SeqO.done ?_
  skip
  refine aops_end ?_
  refine acode_perm (chM g f ks b bs (cellsP (pkT g f) f.nodes.length []) (⟨some br, 3, [.int .i64 0, .int .i64 0, .nils]⟩ :: M)) (by rw [cellsP_nil, ← zerosA_one]; exact List.Perm.swap _ _ _) ?_
  repeat (first | refine aops_end ?_ | refine aops_p tok rfl rfl rfl rfl ?_ | refine acode_seq ?_ | refine acode_region ?_ | refine acode_block ?_)
  have htl := ht.len
  refine acode_loopS (ι := Nat) (fun p => [(3, .pp (foC f)), (4, .ref br 0), (8, .ref b 0), (43, .psl l.length (ints (nums l))), (44, .int .i64 l.length), (45, .int .i64 p)]) (fun p => chM g f ks b bs (cellsP (pkT g f) f.nodes.length (l.take p)) (⟨some br, 3, [.int .i64 0, .int .i64 0, .nils]⟩ :: M)) (fun p => l.length - p) (fun p => p ≤ l.length) 0 (Nat.zero_le _) ⟨rfl, rfl, rfl, rfl, rfl, rfl, trivial⟩ rfl ?_
  intro p hp
  repeat (first | refine aops_end ?_ | refine aops_p tok rfl rfl rfl rfl ?_ | refine acode_seq ?_ | refine acode_region ?_)
  refine acode_id rfl (fun e => ?_) (fun e => ?_)
  · have hpl : p < l.length := by omega
    obtain ⟨i, hpi⟩ : ∃ i, l[p]? = some i := ⟨l[p], List.getElem?_eq_getElem hpl⟩
    have hwf := ht.wf i (List.mem_of_getElem? hpi)
    obtain ⟨hni, hkids⟩ := ctopo_next ht hpi
    have hlw : ∀ k ∈ l.take p, WF f k := fun k hk => ht.wf k (List.mem_of_mem_take hk)
    have htk : l.take (p + 1) = l.take p ++ [i] := by rw [List.take_add_one, hpi]; rfl
    have hi := hwf.lt
    obtain ⟨nd, hnd, hndm, hal⟩ := nodes_at hi
    obtain ⟨hal1, hal2⟩ := hf2 nd hndm
    have hT := pkT_eq (g := g) hwf
    have hTl := pkT_len (g := g) hwf
    unfold rowP at hT
    rw [hal] at hT hTl
    have hcl := cellsP_len (pkT g f) f.nodes.length (l.take p)
    have hin : ∀ k : Nat, k ∈ l.take p → (cellsP (pkT g f) f.nodes.length (l.take p))[k]? = some (.psl (pkT g f k).length (encs pk1 (pkT g f k))) := fun k hk => cellsP_in (hlw k hk).lt hk
    have hout := cellsP_out (T := pkT g f) hi hni
    have hadd := cellsP_add (T := pkT g f) (n := f.nodes.length) (l := l.take p) (j := i)
    rw [← htk] at hadd
    generalize cellsP (pkT g f) f.nodes.length (l.take p) = cells at *
    have h8i := h8 i
    rw [hal] at h8i
    have hkx : ∀ a ∈ nd.alts, ∀ k : Nat, (k : Int) ∈ a.kids → k < f.nodes.length ∧ k ≠ i ∧ cells[k]? = some (.psl (pkT g f k).length (encs pk1 (pkT g f k))) ∧ (pkT g f k).length ≤ 9223372036854775807 ∧ RowOk ar (pkT g f k) := by
      intro a ha k hk
      have hkl := hkids k ⟨a, by rw [hal]; exact ha, hk⟩
      have hkw := hlw k hkl
      refine ⟨hkw.lt, fun e => hni (e ▸ hkl), hin k hkl, ?_, hD k hkw.lt⟩
      rw [pkT_len hkw]
      obtain ⟨nk, _, hnkm, halk⟩ := nodes_at hkw.lt
      rw [halk]
      have := (hf2 nk hnkm).1
      omega
    generalize hti : pkT g f i = ti at *
    repeat (first | refine acode_seq ?_ | refine acode_region ?_ | refine acode_block ?_ | refine acode_skip ?_ | refine then_n ?_)
    refine aops_ix tok [A.int .i64 i] rfl rfl rfl rfl (by omega) (by omega) (by simp) (ints_at (j := p) (by simpa using cnums_at hpi)) rfl rfl rfl ?_
    repeat (first | refine aops_end ?_ | refine aops_p tok rfl rfl rfl rfl ?_ | refine acode_seq ?_ | refine acode_region ?_)
    refine aops_ix tok (ndC nd) rfl rfl rfl rfl (by omega) (by omega) (by simp [ndC]) (nd_at hnd) rfl rfl rfl ?_
    repeat (first | refine aops_end ?_ | refine aops_p tok rfl rfl rfl rfl ?_ | refine acode_block ?_)
    refine acode_adoptF i hout (normL_eq _) ?_
    refine acode_swap1 ?_
    refine acode_loopS (ι := Nat × Option Nat × Nat) (fun q => [(3, .pp (foC f)), (4, .ref br 0), (8, .ref b 0), (10, .int .i64 i), (43, .psl l.length (ints (nums l))), (44, .int .i64 l.length), (45, .int .i64 p), (54, .psl nd.alts.length (encs alC nd.alts)), (55, .int .i64 nd.alts.length), (56, .int .i64 q.1)])
      (fun q => chM g f ks b bs (cells.set i (.own q.2.1 q.1 q.2.2)) (⟨q.2.1, q.2.2 * 1, encs pk1 (ti.take q.1)⟩ :: ⟨some br, 3, [.int .i64 0, .int .i64 0, .nils]⟩ :: M)) (fun q => nd.alts.length - q.1) (fun q => q.1 ≤ nd.alts.length ∧ (q.1 = 0 ∧ q.2.1 = none ∧ q.2.2 = 0 ∨ ∃ c, q.2.1 = some c)) (0, none, 0) ⟨Nat.zero_le _, .inl ⟨rfl, rfl, rfl⟩⟩ ⟨rfl, rfl, rfl, rfl, rfl, rfl, rfl, rfl, rfl, rfl, trivial⟩ rfl ?_
    rintro ⟨q, ob, cap⟩ ⟨hq, hob⟩
    simp only at hq hob ⊢
    repeat (first | refine aops_end ?_ | refine aops_p tok rfl rfl rfl rfl ?_ | refine acode_seq ?_ | refine acode_region ?_)
    refine acode_id rfl (fun e2 => ?_) (fun e2 => ?_)
    · have hql : q < nd.alts.length := by omega
      obtain ⟨a, ha⟩ : ∃ a, nd.alts[q]? = some a := ⟨nd.alts[q], List.getElem?_eq_getElem hql⟩
      have ham := List.mem_of_getElem? ha
      obtain ⟨ha8, har⟩ := h8i a ham
      have htq : ti[q]? = some (altP g (pkT g f) a) := by rw [hT, List.getElem?_map, ha]; rfl
      have htkq : ti.take (q + 1) = ti.take q ++ [altP g (pkT g f) a] := by rw [List.take_add_one, htq]; rfl
      have hset : ∀ x, (cells.set i (.own ob q cap)).take (i * 1) ++ ([x] ++ (cells.set i (.own ob q cap)).drop (i * 1 + 1)) = cells.set i x := fun x => by
        rw [Nat.mul_one]
        have := List.set_eq_take_append_cons_drop (l := cells.set i (.own ob q cap)) (i := i) (a := x)
        rw [List.set_set, List.length_set, if_pos (by rw [hcl]; exact hi)] at this
        rw [this]; rfl
      have hcur := cset_same (x := A.own ob q cap) (show i < cells.length by rw [hcl]; exact hi)
      have hcl2 : (cells.set i (.own ob q cap)).length = f.nodes.length := by rw [List.length_set, hcl]
      have htlq : (ti.take q).length = q := by rw [List.length_take]; omega
      have hac := calt_calls (g := g) (f := f) (ks := ks) (b := b) (bs := bs) (cells := cells.set i (.own ob q cap)) (M := ⟨ob, cap * 1, encs pk1 (ti.take q)⟩ :: ⟨some br, 3, [.int .i64 0, .int .i64 0, .nils]⟩ :: M) (a := a) (T := pkT g f) hs ha8 (fun k hk => by
        obtain ⟨x1, x2, x3, x4, x5⟩ := hkx a ham k hk
        exact ⟨x1, cset_at x3 (fun e => x2 e.symm), x4, x5⟩)
      obtain ⟨y, hy1, hy2⟩ : ∃ y, pkA (altP g (pkT g f) a) = y ∧ (y = .nilp ∨ ∃ cs, y = .cp cs) := by
        cases altP g (pkT g f) a with
        | tk => exact ⟨_, rfl, .inl rfl⟩
        | nd a2 w2 q2 => exact ⟨_, rfl, .inr ⟨_, pkA_nd _ _ _⟩⟩
      have hpk : encs pk1 [altP g (pkT g f) a] = [y] := by rw [← hy1]; rfl
      rw [hy1] at hac
      repeat (first | refine acode_seq ?_ | refine acode_region ?_ | refine acode_block ?_ | refine acode_skip ?_ | refine then_n ?_)
      refine aops_ix tok (alC a) rfl rfl rfl rfl (by omega) (by omega) (by simp [alC]) (al_at ha) rfl rfl rfl ?_
      repeat (refine aops_p tok rfl rfl rfl rfl ?_)
      refine aops_alloc tok rfl rfl rfl rfl rfl rfl fun ba => ?_
      repeat (refine aops_stn tok rfl rfl rfl rfl rfl rfl rfl rfl rfl ?_)
      refine aops_pubref0 12 rfl ?_
      repeat (refine aops_end ?_)
      rcases hy2 with rfl | ⟨cs, rfl⟩
      all_goals
        (refine acode_drawP [⟨some bs, f.nodes.length * 1, cells.set i (.own ob q cap)⟩, ⟨some b, 11, grC g ++ foC f ++ [.mp ks, .own (some bs) f.nodes.length f.nodes.length]⟩] 18 [0, 1, 2, 3, 4, 5, 6, 7, 8, 9, 10, 11, 12, 13, 14, 15, 16, 17] [14, 16] mixed (by kernel_rfl) (by kernel_rfl) rfl ?_
         repeat (first | refine seqO_p tok rfl rfl rfl rfl rfl ?_ | refine seqO_ld tok 1 rfl rfl rfl rfl rfl (by simp) rfl rfl rfl rfl ?_)
         refine seqO_ixo tok rfl rfl rfl rfl rfl (by omega) (by omega) rfl rfl rfl ?_
         refine seqO_ld tok 0 (y := .own ob q cap) rfl rfl rfl rfl rfl (by simp) (by rw [headed_eq]; show (cells.set i _)[i * 1]? = _; rw [Nat.mul_one]; exact hcur) rfl rfl rfl ?_
         repeat (refine seqO_p tok rfl rfl rfl rfl rfl ?_)
         refine seqO_callw (fun _ => _) (fun _ => chM g f ks b bs (cells.set i (.own ob q cap)) (⟨ob, cap * 1, encs pk1 (ti.take q)⟩ :: ⟨some br, 3, [.int .i64 0, .int .i64 0, .nils]⟩ :: M)) rfl Try.func51 rfl rfl rfl rfl (hac.mono fun r M' h => ⟨[], h.1, h.2⟩) (by simp) rfl rfl rfl fun z => ?_
         refine seqO_lit tok rfl rfl rfl rfl rfl rfl rfl rfl rfl ?_
         refine seqO_app tok 2 (m := 1) rfl rfl rfl rfl (.inl rfl) rfl rfl (by rw [encs_len pk1_len, htlq]) rfl rfl rfl (by show _ * 8 ≤ _; omega) (by omega) (by intro y o ho; simp at ho ⊢; rcases ho with rfl | rfl <;> simp) rfl rfl rfl fun ob' cap' => ?_
         refine seqO_T rfl ?_
         refine seqT_ixo tok rfl rfl rfl rfl (by omega) (by omega) rfl rfl rfl ?_
         refine SeqT.done ?_
         refine aops_somed 76 rfl (by omega) fun c hc => ?_
         subst hc
         refine aops_stk tok 0 (cells.set i (.own (some c) (q + 1) cap')) _ rfl rfl rfl rfl rfl rfl (by rw [hcl2]; show i * 1 + 1 ≤ _; omega) (hset _) rfl rfl rfl ?_
         repeat (first | refine aops_end ?_ | refine aops_endb ?_ | refine aops_a tok rfl (by omega) (by omega) rfl rfl rfl ?_ | refine aops_p tok rfl rfl rfl rfl ?_ | refine acode_region ?_ | refine then_n ?_)
         refine ⟨(q + 1, some c, cap'), ⟨by simp only; omega, .inr ⟨c, rfl⟩⟩, by simp only; omega, ⟨rfl, rfl, rfl, rfl, rfl, rfl, rfl, rfl, rfl, rfl, trivial⟩, ?_⟩
         simp only [chM, htkq, encs_app, hpk]
         rfl)
    · obtain rfl : q = nd.alts.length := by omega
      have e1 : ti.take nd.alts.length = ti := List.take_of_length_le (by omega)
      rw [e1, ← hTl]
      refine acode_exit ?_
      repeat (first | refine exit_then ?_ | refine exit_here ?_ | refine then_n ?_ | refine block_n ?_)
      refine acode_perm ([⟨ob, cap * 1, encs pk1 ti⟩] ++ (chM g f ks b bs (cells.set i (.own ob ti.length cap)) (⟨some br, 3, [.int .i64 0, .int .i64 0, .nils]⟩ :: M))) perm3 ?_
      refine acode_freezeVM [⟨ob, cap * 1, encs pk1 ti⟩] (chM g f ks b bs (cellsP (pkT g f) f.nodes.length (l.take (p + 1))) (⟨some br, 3, [.int .i64 0, .int .i64 0, .nils]⟩ :: M)) [(3, .pp (foC f)), (4, .ref br 0), (8, .ref b 0), (43, .psl l.length (ints (nums l))), (44, .int .i64 l.length), (45, .int .i64 p)] ⟨.refl _, .refl _, .refl _, .refl _, .refl _, .refl _, trivial⟩ ?_ ?_
      · refine .cons ?_ (fun h => by cases h) (.same (VwM.rfl' _))
        have hv : Vw [⟨ob, cap * 1, encs pk1 ti⟩] (.own ob ti.length cap) (.psl ti.length (encs pk1 ti)) := by
          rcases hob with ⟨e3, rfl, rfl⟩ | ⟨c, rfl⟩
          · rw [← hTl] at e3
            have : ti = [] := List.eq_nil_of_length_eq_zero e3
            rw [e3, this]; exact .none
          · exact .own (.head _) rfl (by rw [encs_len pk1_len]) (by decide) (VwL.rfl' _)
        have := VwL.set (V := [⟨ob, cap * 1, encs pk1 ti⟩]) i (cset_same (x := A.own ob ti.length cap) (show i < cells.length by rw [hcl]; exact hi)) hv
        rw [List.set_set, hadd] at this
        exact this
      · repeat (first | refine aops_end ?_ | refine aops_a tok rfl (by omega) (by omega) rfl rfl rfl ?_ | refine aops_p tok rfl rfl rfl rfl ?_ | refine acode_region ?_)
        exact ⟨p + 1, by omega, by omega, ⟨rfl, rfl, rfl, rfl, rfl, rfl, trivial⟩, rfl⟩
  · have hge : p = l.length := by omega
    subst hge
    rw [List.take_length]
    have hrl : f.root.toNat < f.nodes.length := by omega
    have hcr := cellsP_in (T := pkT g f) hrl (hall _ hrl)
    have hd1 := hD _ hrl
    have hbc := cbest_calls (g := g) (f := f) (ks := ks) (b := b) (bs := bs) (cells := cellsP (pkT g f) f.nodes.length l) (M := ⟨some br, 3, [.int .i64 0, .int .i64 0, .nils]⟩ :: M) (k := f.root.toNat) (l := pkT g f f.root.toNat) (cf := 53) (cap := []) (may := fun _ => true) hrl hcr (by
      rw [pkT_len (hw _ hrl)]
      obtain ⟨nk, _, hnkm, halk⟩ := nodes_at hrl
      rw [halk]
      have := (hf2 nk hnkm).1
      omega) hd1 Try.func53 rfl (fun q _ _ => all1_calls _)
    rw [show ((f.root.toNat : Nat) : Int) = f.root by omega] at hbc
    have hok : (bestF (fun _ => true) (pkT g f f.root.toNat)).isTk = false → PkOk (bestF (fun _ => true) (pkT g f f.root.toNat)) := fun h => pk_ok h8 (hw _ hrl) _ (best_in h).1 h
    unfold bestR
    generalize bestF (fun _ => true) (pkT g f f.root.toNat) = B at *
    refine acode_exit ?_
    repeat (first | refine exit_then ?_ | refine exit_here ?_ | refine then_n ?_)
    repeat (first | refine aops_p tok rfl rfl rfl rfl ?_ | refine acode_seq ?_ | refine acode_region ?_)
    refine aops_callx Try.func52 rfl rfl rfl rfl hbc rfl rfl rfl ?_
    cases B with
    | tk =>
      rw [show Pk.isTk .tk = true from rfl, if_pos rfl]
      rw [show pkA .tk = .nilp from rfl]
      repeat (first | refine aops_end ?_ | refine aops_p tok rfl rfl rfl rfl ?_ | refine acode_seq ?_ | refine acode_region ?_)
      refine aops_pz tok (b := true) rfl rfl rfl rfl rfl rfl ?_
      repeat' (first | refine aops_end ?_ | refine aops_p tok rfl rfl rfl rfl ?_ | refine acode_it rfl ?_ | refine acode_seq ?_ | refine acode_region ?_)
      refine aops_drop0 (aops_drop0 ?_)
      repeat (first | refine aops_end ?_ | refine aops_p tok rfl rfl rfl rfl ?_ | refine aops_stn tok rfl rfl rfl rfl rfl rfl rfl rfl rfl ?_)
      refine acode_pubref0 4 rfl ?_
      refine acode_ret ?_
      repeat (refine ret_then ?_)
      exact ⟨_, ⟨rfl, rfl⟩, _, _, rfl, resOf_pp tok rfl rfl rfl, resOf_tmp rfl⟩
    | nd a w q =>
      have htc := ctree_calls (hok rfl)
      rw [show Pk.isTk (.nd a w q) = false from rfl, if_neg (by simp)]
      generalize treeP (.nd a w q) = t at *
      rw [pkA_nd] at htc ⊢
      repeat (first | refine aops_end ?_ | refine aops_p tok rfl rfl rfl rfl ?_ | refine acode_seq ?_ | refine acode_region ?_)
      refine aops_pz tok (b := false) rfl rfl rfl rfl rfl rfl ?_
      repeat' (first | refine aops_end ?_ | refine aops_p tok rfl rfl rfl rfl ?_ | refine acode_if rfl ?_ | refine acode_seq ?_ | refine acode_region ?_ | refine acode_skip ?_ | refine then_n ?_)
      refine aops_callx Try.func54 rfl rfl rfl rfl (htc _) rfl rfl rfl ?_
      refine aops_drop0 (aops_drop0 ?_)
      repeat (first | refine aops_end ?_ | refine aops_p tok rfl rfl rfl rfl ?_ | refine aops_stn tok rfl rfl rfl rfl rfl rfl rfl rfl rfl ?_)
      refine acode_pubref0 4 rfl ?_
      refine acode_ret ?_
      skip
      exact ⟨_, ⟨rfl, rfl⟩, _, _, rfl, resOf_pp tok rfl rfl rfl, resOf_tmp rfl⟩
end Go.Proofs.Ytbnhmioijeagiaa.Ab
/- How many trees may be is how many there are among all that do. No condition. -/
set_option linter.unusedVariables false
set_option linter.unusedSimpArgs false
namespace Go.Proofs.Ytbnhmioijeagiaa.Ab

theorem filter_prod {α : Type} {Q : α → Bool} {R S : List α → Bool} {ls : List (List α)} : ∀ {l : List α}, (∀ x ∈ l, ∀ xs, S (x :: xs) = (Q x && R xs)) → ((prodL (l :: ls)).filter S).length = (l.filter Q).length * ((prodL ls).filter R).length
  | [], _ => by simp [prodL]
  | x :: l, h => by
    have ih := filter_prod (l := l) (ls := ls) (Q := Q) (R := R) (S := S) fun y hy => h y (by simp [hy])
    simp only [prodL] at ih
    simp only [prodL, List.flatMap_cons, List.filter_append, List.length_append]
    rw [ih, List.filter_map, List.length_map, List.filter_cons]
    have hx : ∀ xs, (S ∘ fun xs => x :: xs) xs = (Q x && R xs) := fun xs => h x (by simp) xs
    cases hq : Q x with
    | true =>
      have e : (S ∘ fun xs => x :: xs) = R := by funext xs; rw [hx, hq]; rfl
      rw [e, if_pos rfl, List.length_cons, Nat.add_mul, Nat.one_mul, Nat.add_comm]
    | false =>
      have e : (S ∘ fun xs => x :: xs) = fun _ => false := by funext xs; rw [hx, hq]; rfl
      rw [e, if_neg (by simp)]
      simp
/-- May a tree stand at a place of a rule? -/
def standB (fb : List F3) (r p : Int) (t : Tr) : Bool := !(decide (t.rule ≠ -1 ∧ (r, p, t.rule) ∈ fb)) && mayB fb t
theorem altGo_cnt {fb : List F3} {f : Fo} {g : Nat → List Int} {T : Nat → List Tr} {r : Int} : ∀ (ks : List Int) (p v : Nat), (∀ k : Nat, (k : Int) ∈ ks → ∀ p : Nat, kidGo fb r p (altsOf f k) (g k) 0 = sat (((T k).filter (standB fb r p)).length : Nat)) → altGo fb f g r p ks (sat v) = sat ((v * ((prodL (kidsL T ks)).filter (maysB fb r p)).length : Nat))
  | [], p, v, _ => by
    have : (prodL (kidsL T [])).filter (maysB fb r p) = [[]] := by simp [kidsL, prodL, maysB]
    rw [this]; simp [altGo]
  | k :: ks, p, v, hk => by
    have e : kidsL T (k :: ks) = (if 0 ≤ k then T k.toNat else [leafT k]) :: kidsL T ks := rfl
    rw [e, filter_prod (Q := standB fb r p) (R := maysB fb r (p + 1)) fun x _ xs => by rw [maysB]; rfl]
    simp only [altGo]
    split
    · rename_i h0
      obtain ⟨k', rfl⟩ := Int.eq_ofNat_of_zero_le h0
      have h1 := hk k' (by simp) p
      simp only [Int.toNat_natCast] at h1 ⊢
      rw [h1, mulN_sat (by omega) (by omega), ← Int.natCast_mul, altGo_cnt ks (p + 1) _ fun q hq => hk q (by simp [hq]), Nat.mul_assoc]
    · have h1 : [leafT k].filter (standB fb r p) = [leafT k] := by
        have : standB fb r p (leafT k) = true := by unfold standB leafT; rw [mayB_eq]; simp [Tr.rule]
        simp [this]
      rw [h1, altGo_cnt ks (p + 1) _ fun q hq => hk q (by simp [hq])]
      simp
theorem altL_rule {T : Nat → List Tr} {a : Al} : ∀ t ∈ altL T a, t.rule = a.rule := by
  intro t ht
  obtain ⟨o, _, rfl⟩ := List.mem_map.1 ht
  rfl
theorem kidGo_cnt {fb : List F3} {T : Nat → List Tr} {r p : Int} : ∀ (aS : List Al) (n : Nat), (∀ a ∈ aS, a.rule ≠ -1) → kidGo fb r p aS (aS.map fun a => sat (((altL T a).filter (mayB fb)).length : Nat)) (sat n) = sat ((n + ((aS.flatMap (altL T)).filter (standB fb r p)).length : Nat))
  | [], n, _ => by simp [kidGo]
  | a :: aS, n, h => by
    have ha := h a (by simp)
    simp only [List.map_cons, kidGo, List.flatMap_cons, List.filter_append, List.length_append]
    by_cases hm : (r, p, a.rule) ∈ fb
    · have : (altL T a).filter (standB fb r p) = [] := by
        rw [List.filter_eq_nil_iff]
        intro t ht
        unfold standB
        rw [altL_rule t ht]
        simp [ha, hm]
      rw [if_pos hm, this, kidGo_cnt aS n fun b hb => h b (by simp [hb])]
      simp
    · have : (altL T a).filter (standB fb r p) = (altL T a).filter (mayB fb) := List.filter_congr fun t ht => by
        unfold standB
        rw [altL_rule t ht]
        simp [hm]
      rw [if_neg hm, this, addN_sat (by omega) (by omega), ← Int.natCast_add, kidGo_cnt aS _ fun b hb => h b (by simp [hb]), Nat.add_assoc]
theorem ftr_cnt {fb : List F3} {f : Fo} (hr : ∀ i, ∀ a ∈ altsOf f i, a.rule ≠ -1) {i : Nat} (h : WF f i) : ftr fb f i = (altsOf f i).map fun a => sat (((altL (trL f) a).filter (mayB fb)).length : Nat) := by
  induction h with
  | @mk i hi hk hs ih =>
    rw [ftr_eq (.mk hi hk hs)]
    unfold nodeG
    refine List.map_congr_left fun a ha => ?_
    have h1 := altGo_cnt (fb := fb) (f := f) (g := ftr fb f) (T := trL f) (r := a.rule) a.kids 0 1 fun k hm p => by
      rw [ih k ⟨a, ha, hm⟩]
      have := kidGo_cnt (fb := fb) (T := trL f) (r := a.rule) (p := p) (altsOf f k) 0 (hr k)
      rw [show sat ((0 : Nat) : Int) = 0 from by decide, Nat.zero_add] at this
      rw [this, trL_eq (hs k ⟨a, ha, hm⟩)]
      rfl
    rw [show sat ((1 : Nat) : Int) = 1 from by decide, Nat.one_mul] at h1
    rw [h1]
    congr 2
    unfold altL
    rw [List.filter_map, List.length_map]
    congr 1
    refine List.filter_congr fun o ho => ?_
    show _ = mayB fb (Tr.mk a.rule 0 o)
    rw [mayB_eq]
    simp [Tr.rule, Tr.kids, hr i a ha]
theorem sumN_cnt {T : Nat → List Tr} {P : Tr → Bool} : ∀ (aS : List Al) (n : Nat), ((aS.map fun a => sat (((altL T a).filter P).length : Nat)).foldl addN (sat n)) = sat ((n + ((aS.flatMap (altL T)).filter P).length : Nat))
  | [], n => by simp
  | a :: aS, n => by
    simp only [List.map_cons, List.foldl_cons, List.flatMap_cons, List.filter_append, List.length_append]
    rw [addN_sat (by omega) (by omega), ← Int.natCast_add, sumN_cnt aS, Nat.add_assoc]
theorem ftr_sum {fb : List F3} {f : Fo} (hr : ∀ i, ∀ a ∈ altsOf f i, a.rule ≠ -1) {i : Nat} (h : WF f i) : sumN (ftr fb f i) = sat (((trL f i).filter (mayB fb)).length : Nat) := by
  rw [ftr_cnt hr h, trL_eq h]
  have := sumN_cnt (T := trL f) (P := mayB fb) (altsOf f i) 0
  rw [show sat ((0 : Nat) : Int) = 0 from by decide, Nat.zero_add] at this
  exact this
end Go.Proofs.Ytbnhmioijeagiaa.Ab
/- How large the largest tree of a node is, in plain terms. No condition. -/
set_option linter.unusedVariables false
set_option linter.unusedSimpArgs false
namespace Go.Proofs.Ytbnhmioijeagiaa.Ab
def bigM : Int := 1099511627776
def bigK (g : Nat → Int) : Int → List Int → Int
  | x, [] => x
  | x, k :: ks => if x < bigM then bigK g (if 0 ≤ k then x + g k.toNat else x + 1) ks else x
def bigA (g : Nat → Int) : Int → List Al → Int
  | m, [] => m
  | m, a :: l => bigA g (if bigK g 0 a.kids > m then bigK g 0 a.kids else m) l
def bigN (f : Fo) (g : Nat → Int) (i : Nat) : Int := (if bigA g 0 (altsOf f i) ≥ bigM then bigM - 1 else bigA g 0 (altsOf f i)) + 1
theorem bigK_congr {g h : Nat → Int} : ∀ (ks : List Int) (x : Int), (∀ k : Nat, (k : Int) ∈ ks → g k = h k) → bigK g x ks = bigK h x ks
  | [], _, _ => rfl
  | k :: ks, x, hk => by
    have e : (if 0 ≤ k then x + g k.toNat else x + 1) = (if 0 ≤ k then x + h k.toNat else x + 1) := by
      split
      · rename_i h0; rw [hk k.toNat (by rw [Int.toNat_of_nonneg h0]; simp)]
      · rfl
    simp only [bigK, e]
    rw [bigK_congr ks _ fun k hm => hk k (by simp [hm])]
theorem bigA_congr {g h : Nat → Int} : ∀ (l : List Al) (m : Int), (∀ a ∈ l, ∀ k : Nat, (k : Int) ∈ a.kids → g k = h k) → bigA g m l = bigA h m l
  | [], _, _ => rfl
  | a :: l, m, hk => by
    simp only [bigA, bigK_congr a.kids 0 (hk a (by simp))]
    exact bigA_congr l _ fun b hb => hk b (by simp [hb])
theorem big_ex (f : Fo) : ∃ T : Nat → Int, ∀ i, WF f i → T i = bigN f T i := recT (bigN f) fun g h i hk => by
  unfold bigN; rw [bigA_congr _ _ fun a ha k hm => hk k ⟨a, ha, hm⟩]
noncomputable def big (f : Fo) : Nat → Int := Classical.choose (big_ex f)
theorem big_eq {f : Fo} {i : Nat} (h : WF f i) : big f i = bigN f (big f) i := Classical.choose_spec (big_ex f) i h
theorem bigK_is {g : Nat → Int} : ∀ (ks : List Int) (x : Int), 0 ≤ x ∧ x ≤ 2 * bigM → (∀ k : Nat, (k : Int) ∈ ks → 0 ≤ g k ∧ g k ≤ bigM) → 0 ≤ bigK g x ks ∧ bigK g x ks ≤ 2 * bigM
  | [], _, h, _ => h
  | k :: ks, x, h, hk => by
    simp only [bigK]
    split
    · refine bigK_is ks _ ?_ fun k hm => hk k (by simp [hm])
      unfold bigM at *
      split
      · rename_i h0; have := hk k.toNat (by rw [Int.toNat_of_nonneg h0]; simp); omega
      · omega
    · exact h
theorem bigA_is {g : Nat → Int} : ∀ (l : List Al) (m : Int), 0 ≤ m ∧ m ≤ 2 * bigM → (∀ a ∈ l, ∀ k : Nat, (k : Int) ∈ a.kids → 0 ≤ g k ∧ g k ≤ bigM) → 0 ≤ bigA g m l ∧ bigA g m l ≤ 2 * bigM ∧ m ≤ bigA g m l
  | [], _, h, _ => ⟨h.1, h.2, Int.le_refl _⟩
  | a :: l, m, h, hk => by
    simp only [bigA]
    have hb := bigK_is a.kids 0 ⟨by decide, by decide⟩ (hk a (by simp))
    split
    · have := bigA_is l (bigK g 0 a.kids) hb fun b hb => hk b (by simp [hb])
      exact ⟨this.1, this.2.1, by omega⟩
    · exact bigA_is l m h fun b hb => hk b (by simp [hb])
theorem big_is {f : Fo} {i : Nat} (h : WF f i) : 1 ≤ big f i ∧ big f i ≤ bigM := by
  induction h with
  | @mk i hi hk hs ih =>
    rw [big_eq (.mk hi hk hs)]
    have := bigA_is (g := big f) (altsOf f i) 0 ⟨by decide, by decide⟩ fun a ha k hm => by have := ih k ⟨a, ha, hm⟩; exact ⟨by omega, this.2⟩
    unfold bigN
    unfold bigM at *
    split <;> omega
theorem bigA_mem {g : Nat → Int} : ∀ (l : List Al) (m : Int) (a : Al), a ∈ l → bigK g 0 a.kids ≤ bigA g m l ∧ m ≤ bigA g m l
  | [], _, _, h => by cases h
  | b :: l, m, a, h => by
    simp only [bigA]
    have hge : ∀ (l : List Al) (m : Int), m ≤ bigA g m l := by
      intro l
      induction l with
      | nil => intro m; exact Int.le_refl _
      | cons c l ih =>
        intro m
        simp only [bigA]
        split
        · rename_i h; exact Int.le_trans (Int.le_of_lt h) (ih _)
        · exact ih _
    rcases List.mem_cons.1 h with rfl | h
    · split
      · rename_i h; exact ⟨hge _ _, Int.le_trans (Int.le_of_lt h) (hge _ _)⟩
      · rename_i h; exact ⟨Int.le_trans (Int.not_lt.1 h) (hge _ _), hge _ _⟩
    · obtain ⟨h1, h2⟩ := bigA_mem l (if bigK g 0 b.kids > m then bigK g 0 b.kids else m) a h
      refine ⟨h1, Int.le_trans ?_ h2⟩
      split <;> omega
/-- What a row of kids weighs. -/
def wgt (g : Nat → Int) : List Int → Int
  | [] => 0
  | k :: ks => (if 0 ≤ k then g k.toNat else 1) + wgt g ks
theorem bigK_exact {g : Nat → Int} : ∀ (ks : List Int) (x : Int), (∀ k : Nat, (k : Int) ∈ ks → 1 ≤ g k) → bigK g x ks < bigM → bigK g x ks = x + wgt g ks
  | [], x, _, _ => by simp [bigK, wgt]
  | k :: ks, x, hk, h => by
    simp only [bigK, wgt] at h ⊢
    split at h
    · rename_i hx
      rw [if_pos hx, bigK_exact ks _ (fun k hm => hk k (by simp [hm])) h]
      split <;> omega
    · omega
theorem wgt_len {g : Nat → Int} : ∀ (ks : List Int), (∀ k : Nat, (k : Int) ∈ ks → 1 ≤ g k) → (ks.length : Int) ≤ wgt g ks
  | [], _ => by simp [wgt]
  | k :: ks, hk => by
    have ih := wgt_len ks fun k hm => hk k (by simp [hm])
    simp only [wgt, List.length_cons]
    split
    · rename_i h0; have := hk k.toNat (by rw [Int.toNat_of_nonneg h0]; simp); omega
    · omega
theorem wgt_mem {g : Nat → Int} : ∀ (ks : List Int), (∀ k : Nat, (k : Int) ∈ ks → 1 ≤ g k) → ∀ k : Nat, (k : Int) ∈ ks → g k ≤ wgt g ks
  | [], _, _, h => by cases h
  | k0 :: ks, hk, k, h => by
    have ih := wgt_len ks fun k hm => hk k (by simp [hm])
    simp only [wgt]
    rcases List.mem_cons.1 h with rfl | h
    · rw [if_pos (by omega), Int.toNat_natCast]; omega
    · have := wgt_mem ks (fun k hm => hk k (by simp [hm])) k h
      split
      · rename_i h0; have := hk k0.toNat (by rw [Int.toNat_of_nonneg h0]; simp); omega
      · omega
/-- Rows of trees, one of each list, are no larger than they weigh. -/
theorem prod_size {g : Nat → Int} {L : Nat → List Tr} : ∀ (ks : List Int) (out : List Tr), (∀ k : Nat, (k : Int) ∈ ks → ∀ t ∈ L k, (trSize t : Int) ≤ g k) → out ∈ prodL (kidsL L ks) → (trsSize out : Int) ≤ wgt g ks
  | [], out, _, h => by
    simp only [kidsL, List.map_nil, prodL, List.mem_singleton] at h
    subst h; simp [trsSize, wgt]
  | k :: ks, out, hk, h => by
    simp only [kidsL, List.map_cons, prodL, List.mem_flatMap, List.mem_map] at h
    obtain ⟨t, ht, ts, hts, rfl⟩ := h
    have ih := prod_size ks ts (fun k hm => hk k (by simp [hm])) hts
    simp only [trsSize, wgt]
    rw [Int.natCast_add]
    split at ht
    · rename_i h0
      have := hk k.toNat (by rw [Int.toNat_of_nonneg h0]; simp) t ht
      rw [if_pos h0]; omega
    · rename_i h0
      simp only [List.mem_singleton] at ht
      subst ht
      rw [if_neg h0]
      have : trSize (leafT k) = 1 := by simp [leafT, trSize, trsSize]
      omega
theorem big_tr {f : Fo} {i : Nat} (h : WF f i) : big f i < bigM → ∀ t ∈ trL f i, (trSize t : Int) ≤ big f i := by
  induction h with
  | @mk i hi hk hs ih =>
    intro hb t ht
    have hwf : WF f i := .mk hi hk hs
    rw [trL_eq hwf] at ht
    obtain ⟨a, ha, ht⟩ := List.mem_flatMap.1 ht
    obtain ⟨out, ho, rfl⟩ := List.mem_map.1 ht
    have hkid : ∀ k : Nat, (k : Int) ∈ a.kids → Kid f i k := fun k hk => ⟨a, ha, hk⟩
    have h1 := (bigA_mem (g := big f) (altsOf f i) 0 a ha).1
    have hbe := big_eq hwf
    unfold bigN at hbe
    have h2 : bigA (big f) 0 (altsOf f i) + 1 = big f i := by
      split at hbe
      · omega
      · exact hbe.symm
    have h3 := bigK_exact (g := big f) a.kids 0 (fun k hm => (big_is (hs k (hkid k hm))).1) (by omega)
    have hle : ∀ k : Nat, (k : Int) ∈ a.kids → big f k < bigM := fun k hm => by
      have := wgt_mem (g := big f) a.kids (fun k hm => (big_is (hs k (hkid k hm))).1) k hm
      omega
    have h4 := prod_size (g := big f) a.kids out (fun k hm t ht => ih k (hkid k hm) (hle k hm) t ht) ho
    rw [trSize_eq]
    simp only [Tr.kids]
    omega
end Go.Proofs.Ytbnhmioijeagiaa.Ab
/- Package choose in plain terms: a pick's tree is one of the forest's that may be, its weight; when there is none. No condition. -/
set_option linter.unusedVariables false
set_option linter.unusedSimpArgs false
namespace Go.Proofs.Ytbnhmioijeagiaa.Ab

mutual
def rulesT : Tr → List Int
  | .mk r _ ks => if r = -1 then [] else r :: rulessT ks
def rulessT : List Tr → List Int
  | [] => []
  | t :: ts => rulesT t ++ rulessT ts
end
def sumD (g : Gr) : List Int → Int
  | [] => 0
  | r :: l => dynF g r + sumD g l
theorem sumD_app (g : Gr) : ∀ a b : List Int, sumD g (a ++ b) = sumD g a + sumD g b
  | [], b => by simp [sumD]
  | r :: a, b => by rw [List.cons_append, sumD, sumD, sumD_app g a b]; omega
def wtT (g : Gr) (t : Tr) : Int := sumD g (rulesT t)
/-- What is known of a pick: its tree is one of these, that may be. -/
structure PkIs (g : Gr) (TL : List Tr) (e : Pk) : Prop where
  mem : treeP e ∈ TL
  may : mayB g.forbid (treeP e) = true
  rule : (treeP e).rule = e.rule
  wt : e.wt = IntKind.i64.wrap (wtT g (treeP e))
  r0 : e.rule ≠ -1
theorem wrap_rng (n : Int) : rng (IntKind.i64.wrap n) := by
  rw [IntKind.wrap_i64]; unfold rng; omega
theorem wrap_three (a b c : Int) : IntKind.i64.wrap (IntKind.i64.wrap (a + IntKind.i64.wrap b) + c) = IntKind.i64.wrap (a + (b + c)) := by
  simp only [IntKind.wrap_i64]; omega
theorem goP_mem {g : Gr} {T : Nat → List Pk} {TL : Nat → List Tr} {r : Int} : ∀ {l : List Int} {p : Nat} {w : Int} {ks : List Pk} {w' : Int} {ks' : List Pk}, (∀ k : Nat, (k : Int) ∈ l → ∀ e ∈ T k, e.isTk = false → PkIs g (TL k) e) → goP g.forbid T r p l w ks = some (w', ks') →
    ∃ es, ks' = ks ++ es ∧ es.length = l.length ∧ treesP l es ∈ prodL (kidsL TL l) ∧ maysB g.forbid r p (treesP l es) = true ∧ IntKind.i64.wrap w' = IntKind.i64.wrap (w + sumD g (rulessT (treesP l es))) ∧ (rng w → rng w')
  | [], p, w, ks, w', ks', _, h => by
    simp only [goP, Option.some.injEq, Prod.mk.injEq] at h
    obtain ⟨rfl, rfl⟩ := h
    exact ⟨[], by simp, rfl, by simp [treesP, kidsL, prodL], by simp [treesP, maysB], by simp [treesP, rulessT, sumD], id⟩
  | k :: l, p, w, ks, w', ks', hk, h => by
    have hk2 : ∀ q : Nat, (q : Int) ∈ l → ∀ e ∈ T q, e.isTk = false → PkIs g (TL q) e := fun q hq => hk q (by simp [hq])
    simp only [goP] at h
    split at h
    · rename_i h0
      obtain ⟨es, h1, h2, h3, h4, h5, h6⟩ := goP_mem hk2 h
      refine ⟨.tk :: es, by rw [h1]; simp, by simp [h2], ?_, ?_, ?_, h6⟩
      · rw [treesP]
        have e : kidsL TL (k :: l) = [leafT k] :: kidsL TL l := by unfold kidsL; rw [List.map_cons, if_neg (by omega)]
        rw [e, prodL]
        simp [h3]
      · rw [treesP, maysB]
        have : mayB g.forbid (leafT k) = true := by unfold leafT; rw [mayB_eq]; simp [Tr.rule]
        rw [this, h4]
        simp [leafT, Tr.rule]
      · rw [treesP, rulessT]
        have : rulesT (leafT k) = [] := by unfold leafT; rw [rulesT]; simp
        rw [this, List.nil_append]; exact h5
    · rename_i h0
      split at h
      · cases h
      · rename_i hb
        have hb : (bestF (mayP g.forbid r p) (T k.toNat)).isTk = false := by simpa using hb
        obtain ⟨b1, b2⟩ := best_in hb
        have hB := hk k.toNat (by rw [Int.toNat_of_nonneg (by omega)]; simp) _ b1 hb
        obtain ⟨es, h1, h2, h3, h4, h5, h6⟩ := goP_mem hk2 h
        generalize hBe : bestF (mayP g.forbid r p) (T k.toNat) = B at *
        have e1 : treesP (k :: l) (B :: es) = treeP B :: treesP l es := by
          cases B with
          | tk => cases hb
          | nd a w q => rw [treesP]
        refine ⟨B :: es, by rw [h1]; simp, by simp [h2], ?_, ?_, ?_, fun _ => h6 (wrap_rng _)⟩
        · rw [e1]
          have e : kidsL TL (k :: l) = TL k.toNat :: kidsL TL l := by unfold kidsL; rw [List.map_cons, if_pos (by omega)]
          rw [e, prodL]
          exact List.mem_flatMap.2 ⟨_, hB.mem, List.mem_map.2 ⟨_, h3, rfl⟩⟩
        · rw [e1, maysB, hB.may, h4, hB.rule]
          unfold mayP at b2
          simp only [Bool.not_eq_true', decide_eq_false_iff_not] at b2
          simp [b2]
        · rw [e1, rulessT, sumD_app, h5, hB.wt]
          unfold wtT
          exact wrap_three _ _ _
theorem pick_is {g : Gr} {f : Fo} (hdy : ∀ r, rng (dynF g r)) (hr : ∀ i, ∀ a ∈ altsOf f i, a.rule ≠ -1) {i : Nat} (hw : WF f i) : ∀ p ∈ pkT g f i, p.isTk = false → PkIs g (trL f i) p := by
  induction hw with
  | @mk i hi hk hs ih =>
    have hwf : WF f i := .mk hi hk hs
    intro p hp hpt
    rw [pkT_eq hwf] at hp
    obtain ⟨a, ha, rfl⟩ := List.mem_map.1 hp
    have hra := hr i a ha
    unfold altP at hpt ⊢
    cases hgo : goP g.forbid (pkT g f) a.rule 0 a.kids (dynF g a.rule) [] with
    | none => rw [hgo] at hpt; cases hpt
    | some x =>
      obtain ⟨w, ks⟩ := x
      obtain ⟨es, h1, h2, h3, h4, h5, h6⟩ := goP_mem (TL := trL f) (fun k hm => ih k ⟨a, ha, hm⟩) hgo
      simp only [List.nil_append] at h1
      subst h1
      have ht : treeP (.nd a w ks) = .mk a.rule 0 (treesP a.kids ks) := by rw [treeP]
      show PkIs g (trL f i) (.nd a w ks)
      refine ⟨?_, ?_, ?_, ?_, hra⟩
      · rw [ht, trL_eq hwf]
        exact List.mem_flatMap.2 ⟨a, ha, List.mem_map.2 ⟨_, h3, rfl⟩⟩
      · rw [ht, mayB_eq]
        show (_ || maysB g.forbid a.rule 0 (treesP a.kids ks)) = true
        rw [h4, Bool.or_true]
      · rw [ht]; rfl
      · rw [ht]
        unfold wtT
        rw [rulesT, if_neg hra, sumD, ← h5]
        have := h6 (hdy _)
        exact (wrap64_small this.1 this.2).symm
theorem mulN_zero {a b : Int} (ha : isN a) (hb : isN b) : mulN a b = 0 ↔ a = 0 ∨ b = 0 := by
  unfold mulN
  split
  · rename_i h; exact ⟨fun _ => h, fun _ => rfl⟩
  · rename_i h
    split
    · exact ⟨fun e => by unfold great at e; omega, fun e => absurd e h⟩
    · exact Int.mul_eq_zero
theorem altGo_zero {fb : List F3} {f : Fo} {G : Nat → List Int} {r : Int} : ∀ (l : List Int) (p : Nat), altGo fb f G r p l 0 = 0
  | [], _ => rfl
  | k :: l, p => by
    simp only [altGo]
    have : (if 0 ≤ k then mulN 0 (kidGo fb r p (altsOf f k.toNat) (G k.toNat) 0) else 0) = 0 := by split <;> simp [mulN]
    rw [this]; exact altGo_zero l _
theorem addN_zero {a b : Int} (ha : isN a) (hb : isN b) : addN a b = 0 ↔ a = 0 ∧ b = 0 := by
  obtain ⟨a0, a1⟩ := ha
  obtain ⟨b0, b1⟩ := hb
  unfold addN
  split
  · unfold great at *; constructor
    · intro h; omega
    · intro h; omega
  · omega
theorem kidGo_zero {fb : List F3} {r p : Int} {P : Al → Pk} {Q : Al → Int} : ∀ (ls : List Al) (n : Int), isN n → (∀ a ∈ ls, isN (Q a) ∧ ((P a).isTk = true ↔ Q a = 0) ∧ ((P a).isTk = false → (P a).rule = a.rule)) → (kidGo fb r p ls (ls.map Q) n = 0 ↔ n = 0 ∧ ∀ q ∈ ls.map P, q.isTk = true ∨ mayP fb r p q.rule = false)
  | [], n, _, _ => by simp [kidGo]
  | a :: ls, n, hn, h => by
    obtain ⟨h1, h2, h3⟩ := h a (by simp)
    simp only [List.map_cons, kidGo]
    have hstep : isN (if (r, p, a.rule) ∈ fb then n else addN n (Q a)) := by
      split
      · exact hn
      · exact addN_is hn h1
    rw [kidGo_zero ls _ hstep fun b hb => h b (by simp [hb])]
    simp only [List.mem_cons, forall_eq_or_imp, ← and_assoc]
    refine and_congr_left fun _ => ?_
    cases hp : (P a).isTk with
    | true =>
      have hq := h2.1 hp
      split
      · simp
      · rw [addN_zero hn h1, hq]; simp
    | false =>
      have hq : ¬ Q a = 0 := fun e => by rw [h2.2 e] at hp; cases hp
      rw [h3 hp]
      by_cases hm : (r, p, a.rule) ∈ fb
      · rw [if_pos hm]
        simp [mayP, hm]
      · rw [if_neg hm, addN_zero hn h1]
        simp [mayP, hm, hq]
theorem goP_none {fb : List F3} {f : Fo} {T : Nat → List Pk} {G : Nat → List Int} {r : Int} : ∀ (l : List Int) (p : Nat) (w n : Int) (ks : List Pk), isN n → n ≠ 0 → (∀ k : Nat, (k : Int) ∈ l → ∀ p : Nat, isN (kidGo fb r p (altsOf f k) (G k) 0) ∧ ((bestF (mayP fb r p) (T k)).isTk = true ↔ kidGo fb r p (altsOf f k) (G k) 0 = 0)) → (goP fb T r p l w ks = none ↔ altGo fb f G r p l n = 0)
  | [], p, w, n, ks, hn, h0, _ => by simp [goP, altGo, h0]
  | k :: l, p, w, n, ks, hn, h0, h => by
    have h2 : ∀ q : Nat, (q : Int) ∈ l → ∀ p : Nat, isN (kidGo fb r p (altsOf f q) (G q) 0) ∧ ((bestF (mayP fb r p) (T q)).isTk = true ↔ kidGo fb r p (altsOf f q) (G q) 0 = 0) := fun q hq => h q (by simp [hq])
    simp only [goP, altGo]
    by_cases hk : k < 0
    · rw [if_pos hk, if_neg (show ¬ 0 ≤ k by omega)]
      exact goP_none l _ _ _ _ hn h0 h2
    · rw [if_neg hk, if_pos (show 0 ≤ k by omega)]
      obtain ⟨h3, h4⟩ := h k.toNat (by rw [Int.toNat_of_nonneg (by omega)]; simp) p
      by_cases hb : (bestF (mayP fb r p) (T k.toNat)).isTk = true
      · rw [if_pos hb, h4.1 hb]
        simp [mulN, altGo_zero]
      · rw [if_neg hb]
        refine goP_none l _ _ _ _ (mulN_is hn h3) (fun e => ?_) h2
        rcases (mulN_zero hn h3).1 e with e1 | e1
        · exact h0 e1
        · exact hb (h4.2 e1)
theorem pick_tk {g : Gr} {f : Fo} {i : Nat} (hw : WF f i) : ∀ a ∈ altsOf f i, isN (altGo g.forbid f (ftr g.forbid f) a.rule 0 a.kids 1) ∧ ((altP g (pkT g f) a).isTk = true ↔ altGo g.forbid f (ftr g.forbid f) a.rule 0 a.kids 1 = 0) ∧ ((altP g (pkT g f) a).isTk = false → (altP g (pkT g f) a).rule = a.rule) := by
  induction hw with
  | @mk i hi hk hs ih =>
    intro a ha
    have hrule : (altP g (pkT g f) a).isTk = false → (altP g (pkT g f) a).rule = a.rule := by
      intro h
      unfold altP at h ⊢
      cases hgo : goP g.forbid (pkT g f) a.rule 0 a.kids (dynF g a.rule) [] with
      | none => rw [hgo] at h; cases h
      | some x => rfl
    have hN := fun k hm => ftr_is (fb := g.forbid) (hs k ⟨a, ha, hm⟩)
    refine ⟨altGo_is _ _ _ ⟨by decide, by decide⟩ fun k hm => hN k hm, ?_, hrule⟩
    have key := goP_none (fb := g.forbid) (f := f) (T := pkT g f) (G := ftr g.forbid f) (r := a.rule) a.kids 0 (dynF g a.rule) 1 [] ⟨by decide, by decide⟩ (by decide) fun k hm p => by
      refine ⟨kidGo_is _ _ _ ⟨by decide, by decide⟩ (hN k hm), ?_⟩
      have hkw := hs k ⟨a, ha, hm⟩
      rw [best_tk, pkT_eq hkw, ftr_eq hkw]
      unfold rowP nodeG
      rw [kidGo_zero (P := altP g (pkT g f)) (Q := fun a => altGo g.forbid f (ftr g.forbid f) a.rule 0 a.kids 1) (altsOf f k) 0 ⟨by decide, by decide⟩ (ih k ⟨a, ha, hm⟩)]
      simp
    rw [← key]
    unfold altP
    cases goP g.forbid (pkT g f) a.rule 0 a.kids (dynF g a.rule) [] with
    | none => simp [Pk.isTk]
    | some x => simp [Pk.isTk]
end Go.Proofs.Ytbnhmioijeagiaa.Ab
/- Lists of numbers compared, pulled out of Set6 (printed by genchk.py) -/
set_option linter.unusedVariables false
set_option linter.unusedSimpArgs false
namespace Go.Proofs.Ytbnhmioijeagiaa.Ab
attribute [local irreducible] thenA inBlockA ACode AOps put IntKind.wrap

theorem sameInts_calls {a b : List Int} (ha : a.length ≤ 9223372036854775807) (hb : b.length ≤ 9223372036854775807) (M : List Ob) : ACalls Try.prog 27 [.psl a.length (ints a), .psl b.length (ints b)] M (fun r M' => r = .bool (decide (a = b)) ∧ M' = M) := by
  refine acalls_of_code 26 Try.func27 rfl rfl rfl ?_
  repeat' (first | refine aops_end ?_ | (refine aops_pn tok rfl rfl rfl rfl ?_ ?_ <;> intro e_) | refine aops_p tok rfl rfl rfl rfl ?_ | refine acode_it rfl ?_ | refine acode_if rfl ?_ | refine acode_seq ?_ | refine acode_region ?_ | refine acode_block ?_ | refine acode_skip ?_ | refine then_n ?_)
  · refine acode_ret ?_
    repeat (refine ret_then ?_)
    exact ⟨.bool (decide (a = b)), ⟨rfl, rfl⟩, resOf_tmp (bf (fun h => by subst h; exact e_ rfl))⟩
  have hab : a.length = b.length := by omega
  clear e_
  refine acode_loopS (ι := Nat) (fun i => [(0, .psl a.length (ints a)), (1, .psl b.length (ints b)), (5, .int .i64 i)]) (fun _ => M) (fun i => a.length - i) (fun i => i ≤ a.length ∧ a.take i = b.take i) 0 ⟨Nat.zero_le _, by simp⟩ ⟨rfl, rfl, rfl, trivial⟩ rfl ?_
  rintro i ⟨hi, hn⟩
  repeat (first | refine aops_end ?_ | refine aops_p tok rfl rfl rfl rfl ?_ | refine acode_seq ?_ | refine acode_region ?_)
  refine acode_id rfl (fun e => ?_) (fun e => ?_)
  · have hlt : i < a.length := by omega
    obtain ⟨x, hx⟩ : ∃ x, a[i]? = some x := ⟨a[i], List.getElem?_eq_getElem hlt⟩
    obtain ⟨y, hy⟩ : ∃ y, b[i]? = some y := ⟨b[i], List.getElem?_eq_getElem (by omega)⟩
    repeat (first | refine acode_seq ?_ | refine acode_block ?_ | refine acode_skip ?_ | refine then_n ?_)
    refine acode_drawT 9 mixed (by kernel_rfl) (by kernel_rfl) ?_
    repeat (refine seqT_p tok rfl rfl rfl rfl ?_)
    refine seqT_ix tok [A.int .i64 x] rfl rfl rfl rfl (by omega) (by omega) (by simp) (ints_at (j := i) (by simpa using hx)) rfl rfl rfl ?_
    repeat (refine seqT_p tok rfl rfl rfl rfl ?_)
    refine seqT_ix tok [A.int .i64 y] rfl rfl rfl rfl (by omega) (by omega) (by simp) (ints_at (j := i) (by simpa using hy)) rfl rfl rfl ?_
    repeat' (first | (refine seqT_pn tok rfl rfl rfl rfl ?_ ?_ <;> intro e_) | refine seqT_p tok rfl rfl rfl rfl ?_)
    · refine SeqT.done ?_
      repeat' (first | refine aops_end ?_ | refine aops_p tok rfl rfl rfl rfl ?_ | refine acode_it rfl ?_ | refine acode_seq ?_ | refine acode_region ?_)
      refine acode_ret ?_
      repeat (first | refine ret_then ?_ | refine ret_block ?_)
      exact ⟨.bool (decide (a = b)), ⟨rfl, rfl⟩, resOf_tmp (bf (fun h => by subst h; rw [hx] at hy; exact e_ (Option.some.inj hy)))⟩
    · refine SeqT.done ?_
      repeat' (first | refine aops_end ?_ | refine aops_a tok rfl (by omega) (by omega) rfl rfl rfl ?_ | refine aops_p tok rfl rfl rfl rfl ?_ | refine acode_if rfl ?_ | refine acode_region ?_ | refine acode_skip ?_ | refine then_n ?_ | refine block_n ?_)
      refine ⟨i + 1, ⟨by omega, ?_⟩, by omega, ⟨rfl, rfl, rfl, trivial⟩, rfl⟩
      rw [List.take_add_one, List.take_add_one, hn, hx, hy, e_]
  · have hge : i = a.length := by omega
    subst hge
    rw [List.take_length, hab, List.take_length] at hn
    refine acode_exit ?_
    repeat (first | refine exit_then ?_ | refine exit_here ?_ | refine then_n ?_)
    repeat (first | refine aops_end ?_ | refine aops_p tok rfl rfl rfl rfl ?_ | refine acode_seq ?_ | refine acode_region ?_)
    refine acode_ret ?_
    skip
    exact ⟨.bool (decide (a = b)), ⟨rfl, rfl⟩, resOf_tmp (bt hn)⟩
end Go.Proofs.Ytbnhmioijeagiaa.Ab
/- Trees held against each other, and their tokens, in plain terms. No condition. -/
set_option linter.unusedVariables false
set_option linter.unusedSimpArgs false
namespace Go.Proofs.Ytbnhmioijeagiaa.Ab
mutual
def eqT : Tr → Tr → Bool
  | .mk r t ks, .mk r' t' ks' => decide (r = r') && decide (t = t') && eqTs ks ks'
def eqTs : List Tr → List Tr → Bool
  | [], [] => true
  | x :: l, y :: m => eqT x y && eqTs l m
  | [], _ :: _ => false
  | _ :: _, [] => false
end
mutual
theorem eqT_iff : ∀ x y : Tr, eqT x y = true ↔ x = y
  | .mk r t ks, .mk r' t' ks' => by
    have h := eqTs_iff ks ks'
    rw [eqT, Bool.and_eq_true, Bool.and_eq_true, decide_eq_true_iff, decide_eq_true_iff, h, Tr.mk.injEq, and_assoc]
theorem eqTs_iff : ∀ l m : List Tr, eqTs l m = true ↔ l = m
  | [], [] => by simp [eqTs]
  | x :: l, y :: m => by rw [eqTs, Bool.and_eq_true, eqT_iff x y, eqTs_iff l m, List.cons.injEq]
  | [], _ :: _ => by simp [eqTs]
  | _ :: _, [] => by simp [eqTs]
end
theorem eqT_self (t : Tr) : eqT t t = true := (eqT_iff t t).2 rfl
theorem eqTs_self (l : List Tr) : eqTs l l = true := (eqTs_iff l l).2 rfl
theorem eqT_eq (x y : Tr) : eqT x y = (decide (x.rule = y.rule) && decide (x.tok = y.tok) && eqTs x.kids y.kids) := by cases x; cases y; rw [eqT]; rfl
theorem eqTs_len {l m : List Tr} (h : l.length ≠ m.length) : eqTs l m = false := by
  cases he : eqTs l m with
  | false => rfl
  | true => exact absurd (congrArg List.length ((eqTs_iff l m).1 he)) h
theorem eqTs_step {l m : List Tr} {i : Nat} {x y : Tr} (hx : l[i]? = some x) (hy : m[i]? = some y) : eqTs (l.drop i) (m.drop i) = (eqT x y && eqTs (l.drop (i + 1)) (m.drop (i + 1))) := by
  rw [drop_at hx, drop_at hy, eqTs]
mutual
def yieldF : Tr → List Int
  | .mk r t ks => if r = -1 then [t] else yieldsF ks
def yieldsF : List Tr → List Int
  | [] => []
  | t :: ts => yieldF t ++ yieldsF ts
end
theorem yieldF_eq (t : Tr) : yieldF t = if t.rule = -1 then [t.tok] else yieldsF t.kids := by cases t; rw [yieldF]; rfl
theorem yields_step {l : List Tr} {i : Nat} {x : Tr} (hx : l[i]? = some x) : yieldsF (l.drop i) = yieldF x ++ yieldsF (l.drop (i + 1)) := by rw [drop_at hx, yieldsF]
mutual
theorem yieldF_len : ∀ t : Tr, (yieldF t).length ≤ trSize t
  | .mk r t ks => by
    have := yieldsF_len ks
    rw [yieldF, trSize]
    split
    · simp
    · omega
theorem yieldsF_len : ∀ ts : List Tr, (yieldsF ts).length ≤ trsSize ts
  | [] => by simp [yieldsF, trsSize]
  | t :: ts => by
    have := yieldF_len t
    have := yieldsF_len ts
    rw [yieldsF, trsSize, List.length_append]; omega
end
end Go.Proofs.Ytbnhmioijeagiaa.Ab

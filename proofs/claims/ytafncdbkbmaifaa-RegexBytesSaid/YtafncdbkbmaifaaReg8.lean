/- Chapter 3's reader: how it goes on, in plain terms; fuel; literals of one pattern. No condition. -/
import Derived.Test.YtafncdbkbmaifaaReg7
import Derived.Laws.Runes
set_option linter.unusedVariables false
set_option linter.unusedSimpArgs false
namespace Go.Proofs.Ytafncdbkbmaifaa.Ab
/-! ### the reader goes on -/
def RLe (s : List Int) (r r' : Rd) : Prop := r'.at_ ≤ s.length ∧ (r'.e = 0 → r.e = 0 ∧ r.at_ ≤ r'.at_)
def RLt (s : List Int) (r r' : Rd) : Prop := r'.at_ ≤ s.length ∧ (r'.e = 0 → r.e = 0 ∧ r.at_ < r'.at_)
theorem RLe.refl {s : List Int} {r : Rd} (h : r.at_ ≤ s.length) : RLe s r r := ⟨h, fun h => ⟨h, Nat.le_refl _⟩⟩
theorem RLt.le {s : List Int} {r r' : Rd} (h : RLt s r r') : RLe s r r' := ⟨h.1, fun e => ⟨(h.2 e).1, Nat.le_of_lt (h.2 e).2⟩⟩
theorem RLe.trans {s : List Int} {a b c : Rd} (h : RLe s a b) (g : RLe s b c) : RLe s a c := ⟨g.1, fun e => ⟨(h.2 (g.2 e).1).1, Nat.le_trans (h.2 (g.2 e).1).2 (g.2 e).2⟩⟩
theorem RLt.trans_le {s : List Int} {a b c : Rd} (h : RLt s a b) (g : RLe s b c) : RLt s a c := ⟨g.1, fun e => ⟨(h.2 (g.2 e).1).1, Nat.lt_of_lt_of_le (h.2 (g.2 e).1).2 (g.2 e).2⟩⟩
theorem RLe.trans_lt {s : List Int} {a b c : Rd} (h : RLe s a b) (g : RLt s b c) : RLt s a c := ⟨g.1, fun e => ⟨(h.2 (g.2 e).1).1, Nat.lt_of_le_of_lt (h.2 (g.2 e).1).2 (g.2 e).2⟩⟩
theorem fail_le {s : List Int} {r : Rd} {e : Int} (h : r.at_ ≤ s.length) : RLe s r (r.fail e) := by
  unfold Rd.fail
  split
  · rename_i h0; exact ⟨h, fun _ => ⟨h0, Nat.le_refl _⟩⟩
  · exact .refl h
theorem next_lt {s : List Int} {r : Rd} {c : Int} (h : r.is s c = true) : RLt s r r.next := ⟨next_ok h, fun _ => ⟨(is_lt h).1, Nat.lt_succ_self _⟩⟩
theorem any_lt {s : List Int} {r : Rd} (h : r.at_ ≤ s.length) : RLt s r (r.any s).2 := by
  refine ⟨any_ok h, ?_⟩
  unfold Rd.any
  split
  · rename_i h0
    split
    · exact fun _ => ⟨h0, Nat.lt_succ_self _⟩
    · intro h2
      unfold Rd.fail at h2
      rw [if_pos h0] at h2
      exact absurd h2 (by simp)
  · rename_i h0; exact fun h2 => absurd h2 h0
theorem member_lt {s : List Int} {r : Rd} (h : r.at_ ≤ s.length) : RLt s r (r.member s).2 := by
  unfold Rd.member
  split
  · rename_i h2; exact (next_lt h2).trans_le (any_lt (next_ok h2)).le
  · split
    · exact (fail_le h).trans_lt (any_lt (fail_ok h))
    · exact any_lt h
theorem itemB_le {s : List Int} {a : Int} {r1 : Rd} (h : r1.at_ ≤ s.length) : RLe s r1 (itemB s a r1).2 := by
  refine ⟨itemB_ok h, ?_⟩
  unfold itemB
  split
  · rename_i hb
    have h1 := next_lt (between_ok hb)
    have h2 := h1.trans_le (member_lt (next_ok (between_ok hb))).le
    split
    · rename_i hc
      intro h3
      unfold Rd.fail at h3
      rw [if_pos hc.1] at h3
      exact absurd h3 (by simp)
    · exact h2.le.2
  · exact (RLe.refl h).2
theorem item_lt {s : List Int} {S : Nat} {r : Rd} (h : r.at_ ≤ s.length) : RLt s r (r.item s S).2 := by
  rw [item_eq]
  exact (member_lt h).trans_le (itemB_le (member_ok h))
theorem classL_le {s : List Int} : ∀ (f S : Nat) (r : Rd), r.at_ ≤ s.length → RLe s r (classL s f S r).2
  | 0, S, r, h => .refl h
  | f + 1, S, r, h => by
    rw [classL]
    split
    · exact .refl h
    · split
      · rename_i h2; exact (next_lt h2).le
      · exact (item_lt (S := S) h).le.trans (classL_le f _ _ (item_ok (S := S) h))
theorem class_lt {s : List Int} {r : Rd} (h : r.at_ ≤ s.length) : RLt s r (r.class_ s).2 := by
  have hcl : (r.class_ s).2 = (classL s (s.length + 1) ((if r.is s 94 = true then r.next else r).item s 0).1 ((if r.is s 94 = true then r.next else r).item s 0).2).2 := rfl
  rw [hcl]
  have h1 : RLe s r (if r.is s 94 = true then r.next else r) := by
    split
    · rename_i h2; exact (next_lt h2).le
    · exact .refl h
  exact (h1.trans_lt (item_lt (S := 0) h1.1)).trans_le (classL_le _ _ _ (item_ok (S := 0) h1.1))
def notSp (s : List Int) (r : Rd) : Rd := if (match s[r.at_]? with | some x => specials.contains x | none => false) = true then r.fail 2 else r
theorem notSp_le {s : List Int} {r : Rd} (h : r.at_ ≤ s.length) : RLe s r (notSp s r) := by
  unfold notSp
  generalize (match s[r.at_]? with | some x => specials.contains x | none => false) = q
  split
  · exact fail_le h
  · exact .refl h
/-- An atom, its parts told. -/
theorem atom_eq (s : List Int) (f d : Nat) (r : Rd) : atomF s (f + 1) d r = if r.is s 40 = true then (if 20 ≤ d then (reNone, r.fail 4) else ((altF s f (d + 1) r.next).1, if (altF s f (d + 1) r.next).2.is s 41 = true then (altF s f (d + 1) r.next).2.next else (altF s f (d + 1) r.next).2.fail 2)) else if r.is s 46 = true then (reSet setDot, r.next) else if r.is s 92 = true then (reOne (r.next.any s).1, (r.next.any s).2) else if r.is s 91 = true then r.next.class_ s else (reOne ((notSp s r).any s).1, ((notSp s r).any s).2) := by
  rw [atomF]; rfl
theorem part_eq (s : List Int) (f d : Nat) (r : Rd) : partP s (f + 1) d r = repF s (s.length + 1) (atomF s f d r).1 (atomF s f d r).2 := by rw [partP]
theorem seqL_eq (s : List Int) (f d : Nat) (l : List RE) (r : Rd) : seqL s (f + 1) d l r = if r.e = 0 ∧ r.at_ < s.length ∧ r.is s 124 = false ∧ r.is s 41 = false then seqL s f d (l ++ [(partP s f d r).1]) (partP s f d r).2 else (l, r) := by rw [seqL]
theorem seqF_eq (s : List Int) (f d : Nat) (r : Rd) : seqF s (f + 1) d r = (reMany 2 (seqL s f d [] r).1, (seqL s f d [] r).2) := by rw [seqF]
theorem altL_eq (s : List Int) (f d : Nat) (l : List RE) (r : Rd) : altL s (f + 1) d l r = if r.is s 124 = true then altL s f d (l ++ [(seqF s f d r.next).1]) (seqF s f d r.next).2 else (l, r) := by rw [altL]
theorem altF_eq (s : List Int) (f d : Nat) (r : Rd) : altF s (f + 1) d r = (reMany 3 (altL s f d [(seqF s f d r).1] (seqF s f d r).2).1, (altL s f d [(seqF s f d r).1] (seqF s f d r).2).2) := by rw [altF]
theorem rep_le {s : List Int} : ∀ (f : Nat) (x : RE) (r : Rd), r.at_ ≤ s.length → RLe s r (repF s f x r).2
  | 0, x, r, h => .refl h
  | f + 1, x, r, h => by
    rw [repF]
    split
    · rename_i h2; exact (next_lt h2).le.trans (rep_le f _ _ (next_ok h2))
    · split
      · rename_i h2; exact (next_lt h2).le.trans (rep_le f _ _ (next_ok h2))
      · split
        · rename_i h2; exact (next_lt h2).le.trans (rep_le f _ _ (next_ok h2))
        · exact .refl h
structure ReaderLe (s : List Int) (f : Nat) : Prop where
  atom : ∀ d r, r.at_ ≤ s.length → RLe s r (atomF s f d r).2 ∧ (0 < f → RLt s r (atomF s f d r).2)
  part : ∀ d r, r.at_ ≤ s.length → RLe s r (partP s f d r).2 ∧ (1 < f → RLt s r (partP s f d r).2)
  seqL : ∀ d l r, r.at_ ≤ s.length → RLe s r (seqL s f d l r).2
  seq : ∀ d r, r.at_ ≤ s.length → RLe s r (seqF s f d r).2
  altL : ∀ d l r, r.at_ ≤ s.length → RLe s r (altL s f d l r).2
  alt : ∀ d r, r.at_ ≤ s.length → RLe s r (altF s f d r).2
theorem reader_le (s : List Int) : ∀ f, ReaderLe s f
  | 0 => ⟨fun d r h => ⟨by rw [atomF]; exact .refl h, fun h => absurd h (by omega)⟩, fun d r h => ⟨by rw [partP]; exact .refl h, fun h => absurd h (by omega)⟩, fun d l r h => by rw [seqL]; exact .refl h, fun d r h => by rw [seqF]; exact .refl h, fun d l r h => by rw [altL]; exact .refl h, fun d r h => by rw [altF]; exact .refl h⟩
  | f + 1 => by
    have ih := reader_le s f
    have ha : ∀ d r, r.at_ ≤ s.length → RLt s r (atomF s (f + 1) d r).2 := by
      intro d r h
      rw [atom_eq]
      split
      · rename_i h40
        split
        · refine ⟨fail_ok h, fun h2 => ?_⟩
          have := (is_lt h40).1
          simp only [Rd.fail, this, if_true] at h2
          exact absurd h2 (by simp)
        · have h1 := (next_lt h40).trans_le (ih.alt (d + 1) r.next (next_ok h40))
          simp only
          split
          · rename_i h41; exact h1.trans_le (next_lt h41).le
          · exact h1.trans_le (fail_le h1.1)
      · split
        · rename_i h2; exact next_lt h2
        · split
          · rename_i h2; exact (next_lt h2).trans_le (any_lt (next_ok h2)).le
          · split
            · rename_i h2; exact (next_lt h2).trans_le (class_lt (next_ok h2)).le
            · exact (notSp_le h).trans_lt (any_lt (notSp_le h).1)
    refine ⟨fun d r h => ⟨(ha d r h).le, fun _ => ha d r h⟩, fun d r h => ?_, fun d l r h => ?_, fun d r h => ?_, fun d l r h => ?_, fun d r h => ?_⟩
    · rw [part_eq]
      have h1 := ih.atom d r h
      exact ⟨h1.1.trans (rep_le _ _ _ h1.1.1), fun h2 => (h1.2 (by omega)).trans_le (rep_le _ _ _ h1.1.1)⟩
    · rw [seqL_eq]
      split
      · have h1 := (ih.part d r h).1
        exact h1.trans (ih.seqL _ _ _ h1.1)
      · exact .refl h
    · rw [seqF_eq]; exact ih.seqL _ _ _ h
    · rw [altL_eq]
      split
      · rename_i h2
        have h1 := (next_lt h2).le.trans (ih.seq d r.next (next_ok h2))
        exact h1.trans (ih.altL _ _ _ h1.1)
      · exact .refl h
    · rw [altF_eq]
      have h1 := ih.seq d r h
      exact h1.trans (ih.altL _ _ _ h1.1)
/-! ### fuel -/
def need (s : List Int) (r : Rd) : Nat := if r.e = 0 then 6 * (s.length - r.at_) else 0
theorem need_le {s : List Int} {r r' : Rd} (h : RLe s r r') : need s r' ≤ need s r := by
  unfold need
  by_cases e : r'.e = 0
  · obtain ⟨e0, h1⟩ := h.2 e
    rw [if_pos e, if_pos e0]; omega
  · rw [if_neg e]; omega
theorem need_lt {s : List Int} {r r' : Rd} (h : RLt s r r') (h0 : r.e = 0) (h1 : r.at_ < s.length) : need s r' + 6 ≤ need s r := by
  unfold need
  have h2 := h.1
  rw [if_pos h0]
  by_cases e : r'.e = 0
  · obtain ⟨e0, h1⟩ := h.2 e
    rw [if_pos e]; omega
  · rw [if_neg e]; omega
/-! ### literals of one pattern -/
section
variable {P : Program} {T : List TI} {N : Nat} {ops : Array Oper} {rest : List Oper} {o : Oper} {Q : Exit → St → Prop} {E F : Env} {M : List Ob}
theorem aops_lito1 (hT : TOk P T) {d : Nat} {t e : Nat} {ei : TI} {x : Operand} {y : A} (ho : o.op = .buildSlice t 1 #[(0, x)]) (hs : sliceOf T t = some (e, ei)) (hsz : (Nat.blt 0 (1 * ei.size) && Nat.ble (1 * ei.size) 16777216 && Nat.beq ei.zero.length ei.size) = true)
    (hx : opA E x = y) (hy : (Nat.beq y.cs.length ei.size && cellsOk y) = true) (hn : normL y.cs = some y.cs) (hg : guardOn ops o E = some true) (hd : o.dst = some d) (hN : Nat.blt d N = true) (next : ∀ b, AOps P N ops rest Q ⟨(d, .own (some b) 1 1) :: E, ⟨some b, 1 * ei.size, y.cs⟩ :: M⟩) : AOps P N ops (o :: rest) Q ⟨E, M⟩ := by
  have hl := Nat.eq_of_beq_eq_true (by simp only [Bool.and_eq_true] at hy; exact hy.1)
  refine aops_lito hT (r := y.cs) ho hs hsz ?_ hg hd hN (fun b => by rw [hl]; have := next b; rwa [Nat.one_mul] at this)
  simp only [Bool.and_eq_true] at hsz hy
  have hz := Nat.eq_of_beq_eq_true hsz.2
  have hzl : (zerosA (ei.zero.map ofZ) 1).length = ei.size := by simp [zerosA, hz]
  simp only [List.map_cons, List.map_nil, fillA, hx, Nat.zero_mul, hl, hzl, hy.2, Nat.zero_add]
  simp only [Nat.beq_refl, Nat.ble_self_eq_true, Bool.and_self, cond_true, List.take_zero, List.nil_append, fillA]
  rw [List.drop_of_length_le (by omega), List.append_nil, Option.bind_some, hn]
end
theorem reC_snoc (l : List RE) (x : RE) : encs reC (l ++ [x]) = encs reC l ++ reC x := by simp [encs]
theorem reC_enc (l : List RE) : (encs reC l).length = l.length * 6 := by rw [encs_len reC_len]
end Go.Proofs.Ytafncdbkbmaifaa.Ab

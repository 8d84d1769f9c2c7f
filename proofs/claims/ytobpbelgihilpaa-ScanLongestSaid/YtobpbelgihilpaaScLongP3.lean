/- Texts of this proof, one behind the other (SlP, SlQ, SlS, SlR, SlT, SlU, SlV, SlW, PzB, PzC, PzD, PzE, PzF, PzG, SlX, SlY, SnP, SnQ, SnS, SnT, SnU, SlZ, Gra0). No condition. -/
import Derived.Test.YtobpbelgihilpaaScLongP2
/- Chapters 4 to 6 in plain terms: rows of places, what a pattern's places take, spots, and where a byte leads. No condition. -/
set_option linter.unusedVariables false
set_option linter.unusedSimpArgs false
namespace Go.Proofs.Ytobpbelgihilpaa.Ab

/-- The places of a pattern. -/
structure Ps where
  sets : List Nat
  null : Bool
  first : List Int
  last : List Int
  follow : List (List Int)
/-! ### rows that rise -/
def Rise : List Int → Prop
  | [] => True
  | x :: l => (∀ y ∈ l, x < y) ∧ Rise l
def unionF : List Int → List Int → List Int
  | [], b => b
  | x :: a, [] => x :: a
  | x :: a, y :: b => if x < y then x :: unionF a (y :: b) else if y < x then y :: unionF (x :: a) b else x :: unionF a b
termination_by a b => a.length + b.length
theorem unionF_nil (a : List Int) : unionF a [] = a := by cases a <;> simp [unionF]
theorem nil_unionF (b : List Int) : unionF [] b = b := by simp [unionF]
theorem unionF_mem : ∀ (a b : List Int) (z : Int), z ∈ unionF a b ↔ z ∈ a ∨ z ∈ b
  | [], b, z => by simp [unionF]
  | x :: a, [], z => by simp [unionF]
  | x :: a, y :: b, z => by
    rw [unionF]
    split
    · rw [List.mem_cons, unionF_mem a (y :: b) z]; simp only [List.mem_cons, or_assoc]
    · split
      · rw [List.mem_cons, unionF_mem (x :: a) b z]; simp only [List.mem_cons]; exact or_left_comm
      · have : x = y := by omega
        subst this
        rw [List.mem_cons, unionF_mem a b z]; simp only [List.mem_cons]
        constructor
        · rintro (h | h | h)
          · exact .inl (.inl h)
          · exact .inl (.inr h)
          · exact .inr (.inr h)
        · rintro ((h | h) | h | h)
          · exact .inl h
          · exact .inr (.inl h)
          · exact .inl h
          · exact .inr (.inr h)
termination_by a b => a.length + b.length
theorem unionF_rise : ∀ (a b : List Int), Rise a → Rise b → Rise (unionF a b)
  | [], b, _, hb => by simpa [unionF] using hb
  | x :: a, [], ha, _ => by simpa [unionF] using ha
  | x :: a, y :: b, ha, hb => by
    rw [unionF]
    split
    · rename_i h
      refine ⟨fun z hz => ?_, unionF_rise a (y :: b) ha.2 hb⟩
      rcases (unionF_mem _ _ z).1 hz with h1 | h1
      · exact ha.1 z h1
      · rcases List.mem_cons.1 h1 with rfl | h2
        · exact h
        · have := hb.1 z h2; omega
    · split
      · rename_i h
        refine ⟨fun z hz => ?_, unionF_rise (x :: a) b ha hb.2⟩
        rcases (unionF_mem _ _ z).1 hz with h1 | h1
        · rcases List.mem_cons.1 h1 with rfl | h2
          · exact h
          · have := ha.1 z h2; omega
        · exact hb.1 z h1
      · rename_i h1 h2
        refine ⟨fun z hz => ?_, unionF_rise a b ha.2 hb.2⟩
        rcases (unionF_mem _ _ z).1 hz with h3 | h3
        · exact ha.1 z h3
        · have := hb.1 z h3; omega
termination_by a b => a.length + b.length
theorem rise_len : ∀ (l : List Int) (lo n : Int), Rise l → (∀ x ∈ l, lo ≤ x ∧ x < n) → (l.length : Int) ≤ max 0 (n - lo)
  | [], lo, n, _, _ => by simp; omega
  | x :: l, lo, n, h, hr => by
    have h1 := hr x (by simp)
    have := rise_len l (x + 1) n h.2 (fun y hy => ⟨by have := h.1 y hy; omega, (hr y (by simp [hy])).2⟩)
    rw [List.length_cons]; omega
theorem rise_le {l : List Int} {n : Nat} (h : Rise l) (hr : ∀ x ∈ l, 0 ≤ x ∧ x < (n : Int)) : l.length ≤ n := by
  have := rise_len l 0 n h hr; omega
/-! ### what is known of places -/
def InN (n : Nat) (l : List Int) : Prop := ∀ q ∈ l, 0 ≤ q ∧ q < (n : Int)
structure PsOk (p : Ps) : Prop where
  n : p.sets.length ≤ 150
  len : p.follow.length = p.sets.length
  first : InN p.sets.length p.first ∧ Rise p.first
  last : InN p.sets.length p.last ∧ Rise p.last
  follow : ∀ l ∈ p.follow, InN p.sets.length l ∧ Rise l
/-! ### what they take -/
def hitB (p : Ps) (c : Nat) (q : Int) : Bool := decide (0 ≤ q ∧ q < p.sets.length) && (p.sets.getD q.toNat 0).testBit c
def hitF (p : Ps) (now : List Int) (c : Nat) : List Int := now.filter (hitB p c)
def folS (p : Ps) (n : List Int) (q : Int) : List Int := if q < p.follow.length then unionF n (p.follow.getD q.toNat []) else n
def folF (p : Ps) (hit : List Int) : List Int := hit.foldl (folS p) []
def takesL (p : Ps) : List Int → List Nat → Bool
  | _, [] => false
  | now, [c] => (hitF p now c).any fun q => p.last.contains q
  | now, c :: d :: cs => takesL p (folF p (hitF p now c)) (d :: cs)
def takesF (p : Ps) (b : List Nat) : Bool := if b = [] then p.null else takesL p p.first b
/-! ### spots -/
abbrev Sp := Int × Int
def lessS (a b : Sp) : Bool := decide (a.1 < b.1) || (decide (a.1 = b.1) && decide (a.2 < b.2))
def addF : List Sp → Sp → List Sp
  | [], s => [s]
  | x :: l, s => if lessS x s then x :: addF l s else if x = s then x :: l else s :: x :: l
theorem addF_mem : ∀ (l : List Sp) (s z : Sp), z ∈ addF l s ↔ z ∈ l ∨ z = s
  | [], s, z => by simp [addF]
  | x :: l, s, z => by
    rw [addF]
    split
    · rw [List.mem_cons, addF_mem l s z, List.mem_cons, or_assoc]
    · split
      · rename_i h; subst h
        simp only [List.mem_cons]
        constructor
        · exact fun h => .inl h
        · rintro (h | h)
          · exact h
          · exact .inl h
      · simp only [List.mem_cons]
        constructor
        · rintro (h | h)
          · exact .inr h
          · exact .inl h
        · rintro (h | h)
          · exact .inr h
          · exact .inl h
/-- Spots that rise. -/
def RiseS : List Sp → Prop
  | [] => True
  | x :: l => (∀ y ∈ l, lessS x y = true) ∧ RiseS l
theorem lessS_iff {a b : Sp} : lessS a b = true ↔ a.1 < b.1 ∨ a.1 = b.1 ∧ a.2 < b.2 := by unfold lessS; simp
theorem lessS_trans {a b c : Sp} (h : lessS a b = true) (h2 : lessS b c = true) : lessS a c = true := by
  rw [lessS_iff] at *; omega
theorem addF_rise : ∀ (l : List Sp) (s : Sp), RiseS l → RiseS (addF l s)
  | [], s, _ => ⟨by simp, trivial⟩
  | x :: l, s, h => by
    rw [addF]
    split
    · rename_i h1
      refine ⟨fun z hz => ?_, addF_rise l s h.2⟩
      rcases (addF_mem l s z).1 hz with h2 | rfl
      · exact h.1 z h2
      · exact h1
    · split
      · exact h
      · rename_i h1 h2
        have h3 : lessS s x = true := by
          rw [lessS_iff]
          have : ¬ (x.1 < s.1 ∨ x.1 = s.1 ∧ x.2 < s.2) := fun e => h1 (lessS_iff.2 e)
          have h4 : ¬ (x.1 = s.1 ∧ x.2 = s.2) := fun e => h2 (Prod.ext e.1 e.2)
          omega
        refine ⟨fun z hz => ?_, h⟩
        rcases List.mem_cons.1 hz with rfl | hz
        · exact h3
        · exact lessS_trans h3 (h.1 z hz)
def psAt (ps : List Ps) (r : Int) : Ps := ps.getD r.toNat ⟨[], false, [], [], []⟩
def accB (ps : List Ps) (x : Sp) : Bool := (decide (x.2 < 0) && (psAt ps x.1).null) || (decide (0 ≤ x.2) && (psAt ps x.1).last.contains x.2)
def acceptsF (ps : List Ps) : List Sp → Int
  | [] => -1
  | x :: s => if accB ps x then x.1 else acceptsF ps s
def nextOf (ps : List Ps) (x : Sp) : List Int := if 0 ≤ x.2 then (psAt ps x.1).follow.getD x.2.toNat [] else (psAt ps x.1).first
def kidS (ps : List Ps) (r : Int) (c : Nat) (out : List Sp) (k : Int) : List Sp := if ((psAt ps r).sets.getD k.toNat 0).testBit c then addF out (r, k) else out
def spotS (ps : List Ps) (c : Nat) (out : List Sp) (x : Sp) : List Sp := (nextOf ps x).foldl (kidS ps x.1 c) out
def stepS (ps : List Ps) (s : List Sp) (c : Nat) : List Sp := s.foldl (spotS ps c) []
end Go.Proofs.Ytobpbelgihilpaa.Ab
/- Chapters 4 and 5 in plain terms: spots along a row of bytes are the places that Takes goes over; what they accept is the first pattern that takes the row. No condition. -/
set_option linter.unusedVariables false
set_option linter.unusedSimpArgs false
namespace Go.Proofs.Ytobpbelgihilpaa.Ab

theorem kidS_mem {ps : List Ps} {r : Int} {c : Nat} : ∀ (l : List Int) (out : List Sp) (z : Sp), z ∈ l.foldl (kidS ps r c) out ↔ z ∈ out ∨ z.1 = r ∧ z.2 ∈ l ∧ ((psAt ps r).sets.getD z.2.toNat 0).testBit c = true
  | [], out, z => by simp
  | k :: l, out, z => by
    rw [List.foldl_cons, kidS_mem l]
    unfold kidS
    split
    · rename_i h
      rw [addF_mem]
      constructor
      · rintro ((h1 | rfl) | ⟨h1, h2, h3⟩)
        · exact .inl h1
        · exact .inr ⟨rfl, by simp, h⟩
        · exact .inr ⟨h1, by simp [h2], h3⟩
      · rintro (h1 | ⟨h1, h2, h3⟩)
        · exact .inl (.inl h1)
        · rcases List.mem_cons.1 h2 with h4 | h4
          · exact .inl (.inr (Prod.ext h1 h4))
          · exact .inr ⟨h1, h4, h3⟩
    · rename_i h
      constructor
      · rintro (h1 | ⟨h1, h2, h3⟩)
        · exact .inl h1
        · exact .inr ⟨h1, by simp [h2], h3⟩
      · rintro (h1 | ⟨h1, h2, h3⟩)
        · exact .inl h1
        · rcases List.mem_cons.1 h2 with h4 | h4
          · rw [h4] at h3; exact absurd h3 h
          · exact .inr ⟨h1, h4, h3⟩
theorem kidS_rise {ps : List Ps} {r : Int} {c : Nat} : ∀ (l : List Int) (out : List Sp), RiseS out → RiseS (l.foldl (kidS ps r c) out)
  | [], out, h => h
  | k :: l, out, h => by
    rw [List.foldl_cons]
    refine kidS_rise l _ ?_
    unfold kidS
    split
    · exact addF_rise _ _ h
    · exact h
theorem spotS_mem {ps : List Ps} {c : Nat} : ∀ (s : List Sp) (out : List Sp) (z : Sp), z ∈ s.foldl (spotS ps c) out ↔ z ∈ out ∨ ∃ x ∈ s, z.1 = x.1 ∧ z.2 ∈ nextOf ps x ∧ ((psAt ps x.1).sets.getD z.2.toNat 0).testBit c = true
  | [], out, z => by simp
  | x :: s, out, z => by
    rw [List.foldl_cons, spotS_mem s]
    unfold spotS
    rw [kidS_mem]
    simp only [List.mem_cons, exists_eq_or_imp, or_assoc]
theorem spotS_rise {ps : List Ps} {c : Nat} : ∀ (s : List Sp) (out : List Sp), RiseS out → RiseS (s.foldl (spotS ps c) out)
  | [], out, h => h
  | x :: s, out, h => by
    rw [List.foldl_cons]
    exact spotS_rise s _ (kidS_rise _ _ h)
theorem stepS_mem {ps : List Ps} {s : List Sp} {c : Nat} {z : Sp} : z ∈ stepS ps s c ↔ ∃ x ∈ s, z.1 = x.1 ∧ z.2 ∈ nextOf ps x ∧ ((psAt ps x.1).sets.getD z.2.toNat 0).testBit c = true := by
  unfold stepS; rw [spotS_mem]; simp
theorem stepS_rise (ps : List Ps) (s : List Sp) (c : Nat) : RiseS (stepS ps s c) := spotS_rise s [] trivial
/-- Each pattern's beginning. -/
def firstS (n : Nat) : List Sp := (List.range n).foldl (fun l (i : Nat) => addF l ((i : Int), -1)) []
theorem firstL_mem : ∀ (l : List Nat) (out : List Sp) (z : Sp), z ∈ l.foldl (fun l (i : Nat) => addF l ((i : Int), -1)) out ↔ z ∈ out ∨ ∃ i ∈ l, z = ((i : Int), -1)
  | [], out, z => by simp
  | i :: l, out, z => by
    rw [List.foldl_cons, firstL_mem l, addF_mem]
    simp only [List.mem_cons, exists_eq_or_imp, or_assoc]
theorem firstS_mem {n : Nat} {z : Sp} : z ∈ firstS n ↔ ∃ i : Nat, i < n ∧ z = ((i : Int), -1) := by
  unfold firstS; rw [firstL_mem]; simp
theorem firstL_rise : ∀ (l : List Nat) (out : List Sp), RiseS out → RiseS (l.foldl (fun l (i : Nat) => addF l ((i : Int), -1)) out)
  | [], out, h => h
  | i :: l, out, h => by rw [List.foldl_cons]; exact firstL_rise l _ (addF_rise _ _ h)
theorem firstS_rise (n : Nat) : RiseS (firstS n) := firstL_rise _ [] trivial
/-- Spots along a row of bytes. -/
def runS (ps : List Ps) (w : List Nat) : List Sp := w.foldl (stepS ps) (firstS ps.length)
theorem runS_snoc (ps : List Ps) (w : List Nat) (c : Nat) : runS ps (w ++ [c]) = stepS ps (runS ps w) c := by unfold runS; rw [List.foldl_append]; rfl
theorem snoc_ind {α : Type} {P : List α → Prop} (h0 : P []) (h1 : ∀ l x, P l → P (l ++ [x])) (l : List α) : P l := by
  have : ∀ n, ∀ l : List α, l.length = n → P l := by
    intro n
    induction n with
    | zero => intro l hl; rw [List.eq_nil_of_length_eq_zero hl]; exact h0
    | succ n ih =>
      intro l hl
      have hne : l ≠ [] := by intro e; subst e; simp at hl
      rw [← List.dropLast_concat_getLast hne]
      exact h1 _ _ (ih _ (by rw [List.length_dropLast]; omega))
  exact this _ l rfl
theorem runS_rise (ps : List Ps) : ∀ w, RiseS (runS ps w) := snoc_ind (firstS_rise _) fun w c _ => by rw [runS_snoc]; exact stepS_rise _ _ _
theorem runS_rule (ps : List Ps) : ∀ w, ∀ z ∈ runS ps w, 0 ≤ z.1 ∧ z.1 < (ps.length : Int) := by
  refine snoc_ind (fun z hz => ?_) fun w c ih z hz => ?_
  · obtain ⟨i, h1, rfl⟩ := firstS_mem.1 hz
    simp only; omega
  · rw [runS_snoc] at hz
    obtain ⟨x, h1, h2, _⟩ := stepS_mem.1 hz
    rw [h2]; exact ih x h1
/-! ### Takes -/
def nowL (p : Ps) (now : List Int) (u : List Nat) : List Int := u.foldl (fun n c => folF p (hitF p n c)) now
theorem takesL_snoc {p : Ps} : ∀ (u : List Nat) (now : List Int) (c : Nat), takesL p now (u ++ [c]) = (hitF p (nowL p now u) c).any fun q => p.last.contains q
  | [], now, c => rfl
  | [d], now, c => by
    rw [List.cons_append, List.nil_append, takesL, takesL]
    rfl
  | d :: e :: u, now, c => by
    rw [List.cons_append, List.cons_append, takesL, ← List.cons_append, takesL_snoc (e :: u)]
    rfl
theorem folL_mem {p : Ps} : ∀ (hit n : List Int) (z : Int), z ∈ hit.foldl (folS p) n ↔ z ∈ n ∨ ∃ q ∈ hit, q < p.follow.length ∧ z ∈ p.follow.getD q.toNat []
  | [], n, z => by simp
  | q :: hit, n, z => by
    rw [List.foldl_cons, folL_mem hit]
    unfold folS
    split
    · rename_i h
      rw [unionF_mem]
      constructor
      · rintro ((h1 | h1) | ⟨q', h1, h2, h3⟩)
        · exact .inl h1
        · exact .inr ⟨q, by simp, h, h1⟩
        · exact .inr ⟨q', by simp [h1], h2, h3⟩
      · rintro (h1 | ⟨q', h1, h2, h3⟩)
        · exact .inl (.inl h1)
        · rcases List.mem_cons.1 h1 with rfl | h1
          · exact .inl (.inr h3)
          · exact .inr ⟨q', h1, h2, h3⟩
    · rename_i h
      constructor
      · rintro (h1 | ⟨q', h1, h2, h3⟩)
        · exact .inl h1
        · exact .inr ⟨q', by simp [h1], h2, h3⟩
      · rintro (h1 | ⟨q', h1, h2, h3⟩)
        · exact .inl h1
        · rcases List.mem_cons.1 h1 with rfl | h1
          · exact absurd h2 h
          · exact .inr ⟨q', h1, h2, h3⟩
theorem hitF_mem {p : Ps} {now : List Int} {c : Nat} {z : Int} : z ∈ hitF p now c ↔ z ∈ now ∧ (0 ≤ z ∧ z < (p.sets.length : Int)) ∧ (p.sets.getD z.toNat 0).testBit c = true := by
  unfold hitF hitB; simp
/-- The spots of a pattern behind a row that is not empty. -/
theorem runS_hit {ps : List Ps} {r : Nat} (hr : r < ps.length) (hp : PsOk (psAt ps r)) (c : Nat) (q : Int) : ∀ u c q, ((r : Int), q) ∈ runS ps (u ++ [c]) ↔ q ∈ hitF (psAt ps r) (nowL (psAt ps r) (psAt ps r).first u) c := by
  refine snoc_ind (fun c q => ?_) fun u d ih c q => ?_
  · rw [List.nil_append, show [c] = [] ++ [c] from rfl, runS_snoc, stepS_mem, hitF_mem]
    show (∃ x ∈ firstS ps.length, _) ↔ q ∈ (psAt ps r).first ∧ _
    constructor
    · rintro ⟨x, h1, h2, h3, h4⟩
      obtain ⟨i, h5, rfl⟩ := firstS_mem.1 h1
      simp only at h2 h3 h4
      have : i = r := by omega
      subst this
      unfold nextOf at h3
      rw [if_neg (by simp)] at h3
      exact ⟨h3, hp.first.1 q h3, h4⟩
    · rintro ⟨h1, h2, h3⟩
      refine ⟨((r : Int), -1), firstS_mem.2 ⟨r, hr, rfl⟩, rfl, ?_, h3⟩
      unfold nextOf
      rw [if_neg (by simp)]
      exact h1
  · rw [runS_snoc, stepS_mem, hitF_mem]
    have e : nowL (psAt ps r) (psAt ps r).first (u ++ [d]) = folF (psAt ps r) (hitF (psAt ps r) (nowL (psAt ps r) (psAt ps r).first u) d) := by
      unfold nowL; rw [List.foldl_append]; rfl
    rw [e]
    unfold folF
    rw [folL_mem]
    constructor
    · rintro ⟨⟨x1, x2⟩, h1, h2, h3, h4⟩
      simp only at h2 h3 h4
      subst h2
      have h5 := (ih d x2).1 h1
      obtain ⟨_, h6, _⟩ := hitF_mem.1 h5
      unfold nextOf at h3
      rw [if_pos h6.1] at h3
      have h7 : x2 < ((psAt ps r).follow.length : Int) := by rw [hp.len]; exact h6.2
      have h8 : (psAt ps r).follow.getD x2.toNat [] ∈ (psAt ps r).follow := by
        rw [List.getD_eq_getElem?_getD, List.getElem?_eq_getElem (by omega), Option.getD_some]; exact List.getElem_mem _
      exact ⟨.inr ⟨x2, h5, h7, h3⟩, (hp.follow _ h8).1 q h3, h4⟩
    · rintro ⟨h1, h2, h3⟩
      rcases h1 with h1 | ⟨x2, h4, h5, h6⟩
      · cases h1
      · obtain ⟨_, h7, _⟩ := hitF_mem.1 h4
        refine ⟨((r : Int), x2), (ih d x2).2 h4, rfl, ?_, h3⟩
        unfold nextOf
        rw [if_pos h7.1]
        exact h6
theorem takes_run {ps : List Ps} {r : Nat} (hr : r < ps.length) (hp : PsOk (psAt ps r)) (u : List Nat) (c : Nat) : takesF (psAt ps r) (u ++ [c]) = true ↔ ∃ z ∈ runS ps (u ++ [c]), z.1 = r ∧ accB ps z = true := by
  unfold takesF
  rw [if_neg (by simp), takesL_snoc, List.any_eq_true]
  constructor
  · rintro ⟨q, h1, h2⟩
    refine ⟨((r : Int), q), (runS_hit hr hp c q u c q).2 h1, rfl, ?_⟩
    have := (hitF_mem.1 h1).2.1.1
    unfold accB
    simp only [Bool.or_eq_true, Bool.and_eq_true, decide_eq_true_eq]
    exact .inr ⟨this, h2⟩
  · rintro ⟨⟨z1, z2⟩, h1, h2, h3⟩
    simp only at h2
    subst h2
    have h4 := (runS_hit hr hp c z2 u c z2).1 h1
    have := (hitF_mem.1 h4).2.1.1
    refine ⟨z2, h4, ?_⟩
    unfold accB at h3
    simp only [Bool.or_eq_true, Bool.and_eq_true, decide_eq_true_eq] at h3
    rcases h3 with h3 | h3
    · omega
    · exact h3.2
theorem acceptsF_is {ps : List Ps} : ∀ s : List Sp, RiseS s → (acceptsF ps s = -1 ∧ ∀ z ∈ s, accB ps z = false) ∨ ∃ z ∈ s, accB ps z = true ∧ acceptsF ps s = z.1 ∧ ∀ y ∈ s, accB ps y = true → z.1 ≤ y.1
  | [], _ => .inl ⟨rfl, by simp⟩
  | x :: s, h => by
    rw [acceptsF]
    cases hx : accB ps x with
    | true =>
      rw [if_pos rfl]
      refine .inr ⟨x, by simp, hx, rfl, fun y hy hb => ?_⟩
      rcases List.mem_cons.1 hy with rfl | hy
      · exact Int.le_refl _
      · have := lessS_iff.1 (h.1 y hy); omega
    | false =>
      rw [if_neg (by simp)]
      rcases acceptsF_is s h.2 with ⟨h1, h2⟩ | ⟨z, h1, h2, h3, h4⟩
      · refine .inl ⟨h1, fun z hz => ?_⟩
        rcases List.mem_cons.1 hz with rfl | hz
        · exact hx
        · exact h2 z hz
      · refine .inr ⟨z, by simp [h1], h2, h3, fun y hy hb => ?_⟩
        rcases List.mem_cons.1 hy with rfl | hy
        · rw [hx] at hb; cases hb
        · exact h4 y hy hb
/-- The first pattern that takes a row, or none. -/
def FirstTakes (ps : List Ps) (w : List Nat) (v : Int) : Prop := (v = -1 ∧ ∀ i, i < ps.length → takesF (psAt ps i) w = false) ∨ ∃ i : Nat, i < ps.length ∧ v = i ∧ takesF (psAt ps i) w = true ∧ ∀ j, j < i → takesF (psAt ps j) w = false
theorem accepts_takes {ps : List Ps} (hp : ∀ r, r < ps.length → PsOk (psAt ps r)) {w : List Nat} (hw : w ≠ []) : FirstTakes ps w (acceptsF ps (runS ps w)) := by
  rw [← List.dropLast_concat_getLast hw]
  generalize w.dropLast = u
  generalize w.getLast hw = c
  rcases acceptsF_is (ps := ps) (runS ps (u ++ [c])) (runS_rise ps _) with ⟨h1, h2⟩ | ⟨z, h1, h2, h3, h4⟩
  · refine .inl ⟨h1, fun i hi => ?_⟩
    cases ht : takesF (psAt ps i) (u ++ [c]) with
    | false => rfl
    | true =>
      obtain ⟨z, k1, _, k3⟩ := (takes_run hi (hp i hi) u c).1 ht
      rw [h2 z k1] at k3; cases k3
  · have hz := runS_rule ps _ z h1
    obtain ⟨i, hi⟩ : ∃ i : Nat, z.1 = i := ⟨z.1.toNat, by omega⟩
    refine .inr ⟨i, by omega, by rw [h3, hi], (takes_run (by omega) (hp i (by omega)) u c).2 ⟨z, h1, hi, h2⟩, fun j hj => ?_⟩
    cases ht : takesF (psAt ps j) (u ++ [c]) with
    | false => rfl
    | true =>
      obtain ⟨y, k1, k2, k3⟩ := (takes_run (by omega) (hp j (by omega)) u c).1 ht
      have := h4 y k1 k3
      omega
end Go.Proofs.Ytobpbelgihilpaa.Ab
/- Chapter 6 in plain terms: how an automaton goes over a row of bytes. No condition. -/
set_option linter.unusedVariables false
set_option linter.unusedSimpArgs false
namespace Go.Proofs.Ytobpbelgihilpaa.Ab
def isSt (nx : List (List Int)) (ac : List Int) (s : Int) : Prop := 0 ≤ s ∧ s < nx.length ∧ s < ac.length
instance (nx : List (List Int)) (ac : List Int) (s : Int) : Decidable (isSt nx ac s) := inferInstanceAs (Decidable (_ ∧ _ ∧ _))
def stepD (nx : List (List Int)) (ac : List Int) (s c : Int) : Int :=
  if isSt nx ac s then
    let r := nx.getD s.toNat []
    if c < r.length then (let to := r.getD c.toNat 0; if isSt nx ac to then to else -1) else -1
  else -1
def accD (nx : List (List Int)) (ac : List Int) (s : Int) : Int := if isSt nx ac s then max (-1) (ac.getD s.toNat 0) else -1
def runD (nx : List (List Int)) (ac : List Int) : Int → Int → Int → Int → List Int → Int × Int × Int
  | _, r, l, i, [] => (r, l, i + 1)
  | s, r, l, i, c :: cs => if stepD nx ac s c < 0 then (r, l, i + 1) else if accD nx ac (stepD nx ac s c) ≥ 0 then runD nx ac (stepD nx ac s c) (accD nx ac (stepD nx ac s c)) (i + 1) (i + 1) cs else runD nx ac (stepD nx ac s c) r l (i + 1) cs
end Go.Proofs.Ytobpbelgihilpaa.Ab
/- Chapters 5 and 6 in plain terms: an automaton that is made of rows of spots, its useless states cut, its alike states put together, takes the longest row that a pattern takes. No condition. -/
set_option linter.unusedVariables false
set_option linter.unusedSimpArgs false
namespace Go.Proofs.Ytobpbelgihilpaa.Ab

def cellI (nx : List (List Int)) (i c : Nat) : Int := (nx.getD i []).getD c (-1)
/-- All rows of spots that are come to, where each byte leads, what each accepts. -/
structure SubOk (ps : List Ps) (all : List (List Sp)) (nx : List (List Int)) (ac : List Int) : Prop where
  zero : all[0]? = some (firstS ps.length)
  n1 : nx.length = all.length
  n2 : ac.length = all.length
  row : ∀ (i : Nat) (r : List Int), nx[i]? = some r → r.length = 256
  acc : ∀ (i : Nat) (s : List Sp), all[i]? = some s → ac.getD i 0 = acceptsF ps s
  go : ∀ (i : Nat) (s : List Sp), all[i]? = some s → ∀ c, c < 256 → (stepS ps s c = [] ∧ cellI nx i c = -1) ∨ (stepS ps s c ≠ [] ∧ ∃ k : Nat, cellI nx i c = k ∧ all[k]? = some (stepS ps s c))
/-- From what is of no use nothing is come to that accepts. -/
structure UseOk (nx : List (List Int)) (ac : List Int) (ok : List Bool) : Prop where
  len : ok.length = ac.length
  no : ∀ i, i < ac.length → ok.getD i false = false → ac.getD i 0 < 0 ∧ ∀ c, c < 256 → 0 ≤ cellI nx i c → ok.getD (cellI nx i c).toNat false = false
def cutV (ok : List Bool) (v : Int) : Int := if 0 ≤ v ∧ ok.getD v.toNat false = false then -1 else v
def cutR (nx : List (List Int)) (ok : List Bool) : List (List Int) := nx.map fun r => r.map (cutV ok)
theorem cutR_cell {nx : List (List Int)} {ok : List Bool} {i c : Nat} {r : List Int} (hr : nx[i]? = some r) (hc : c < r.length) : cellI (cutR nx ok) i c = cutV ok (cellI nx i c) := by
  unfold cellI cutR
  simp only [List.getD_eq_getElem?_getD, List.getElem?_map, hr, Option.map_some, Option.getD_some]
  rw [List.getElem?_eq_getElem hc]
  rfl
/-- States of one class accept the same and lead to states of one class. -/
structure ClOk (nx : List (List Int)) (ac cl : List Int) : Prop where
  len : cl.length = ac.length
  acc : ∀ i k, i < ac.length → k < ac.length → cl.getD i 0 = cl.getD k 0 → ac.getD i 0 = ac.getD k 0
  go : ∀ i k, i < ac.length → k < ac.length → cl.getD i 0 = cl.getD k 0 → ∀ c, c < 256 → (cellI nx i c < 0 ↔ cellI nx k c < 0) ∧ (0 ≤ cellI nx i c → cl.getD (cellI nx i c).toNat 0 = cl.getD (cellI nx k c).toNat 0)
structure FinOk (nx : List (List Int)) (ac cl : List Int) (order : List Nat) (dn : List (List Int)) (da : List Int) : Prop where
  zero : order[0]? = some 0
  lt : ∀ o ∈ order, o < ac.length
  n1 : dn.length = order.length
  n2 : da.length = order.length
  row : ∀ (i : Nat) (r : List Int), dn[i]? = some r → r.length = 256
  acc : ∀ (i o : Nat), order[i]? = some o → da.getD i 0 = ac.getD o 0
  go : ∀ (i o : Nat), order[i]? = some o → ∀ c, c < 256 → (cellI nx o c < 0 ∧ cellI dn i c = -1) ∨ (0 ≤ cellI nx o c ∧ ∃ k : Nat, cellI dn i c = k ∧ ∃ o', order[k]? = some o' ∧ cl.getD o' 0 = cl.getD (cellI nx o c).toNat 0)
def DfaOk (ps : List Ps) (dn : List (List Int)) (da : List Int) : Prop := ∃ all nx ac ok cl order, SubOk ps all nx ac ∧ UseOk nx ac ok ∧ ClOk (cutR nx ok) ac cl ∧ FinOk (cutR nx ok) ac cl order dn da
theorem acceptsF_lo {ps : List Ps} {s : List Sp} (hr : ∀ z ∈ s, 0 ≤ z.1) : -1 ≤ acceptsF ps s := by
  induction s with
  | nil => simp [acceptsF]
  | cons x s ih =>
    rw [acceptsF]
    split
    · have := hr x (by simp); omega
    · exact ih fun z hz => hr z (by simp [hz])
theorem acc_lo (ps : List Ps) (w : List Nat) : -1 ≤ acceptsF ps (runS ps w) := acceptsF_lo fun z hz => (runS_rule ps w z hz).1
theorem runS_app (ps : List Ps) (u v : List Nat) : runS ps (u ++ v) = v.foldl (stepS ps) (runS ps u) := by unfold runS; rw [List.foldl_append]
theorem step_nil (ps : List Ps) (c : Nat) : stepS ps [] c = [] := rfl
theorem run_nil (ps : List Ps) : ∀ v : List Nat, v.foldl (stepS ps) [] = []
  | [] => rfl
  | c :: v => by rw [List.foldl_cons, step_nil, run_nil ps v]
/-- Nothing more is accepted. -/
def DeadW (ps : List Ps) (u : List Nat) : Prop := ∀ v : List Nat, (∀ c ∈ v, c < 256) → acceptsF ps (runS ps (u ++ v)) = -1
theorem useless_dead {ps : List Ps} {all : List (List Sp)} {nx : List (List Int)} {ac : List Int} {ok : List Bool} (S : SubOk ps all nx ac) (U : UseOk nx ac ok) : ∀ (v : List Nat) (i : Nat) (s : List Sp), (∀ c ∈ v, c < 256) → all[i]? = some s → ok.getD i false = false → acceptsF ps (v.foldl (stepS ps) s) < 0
  | [], i, s, _, hs, ho => by
    have hi : i < ac.length := by rw [S.n2]; exact (List.getElem?_eq_some_iff.1 hs).1
    have := (U.no i hi ho).1
    rw [S.acc i s hs] at this
    exact this
  | c :: v, i, s, hv, hs, ho => by
    have hi : i < ac.length := by rw [S.n2]; exact (List.getElem?_eq_some_iff.1 hs).1
    rw [List.foldl_cons]
    have hc : c < 256 := hv c (by simp)
    rcases S.go i s hs c hc with ⟨h1, _⟩ | ⟨h1, k, h2, h3⟩
    · rw [h1, run_nil]; simp [acceptsF]
    · refine useless_dead S U v k _ (fun d hd => hv d (by simp [hd])) h3 ?_
      have := (U.no i hi ho).2 c hc (by rw [h2]; omega)
      rw [h2] at this
      simpa using this
/-- Where the automaton stands behind a row. -/
def StandsAt (ps : List Ps) (dn : List (List Int)) (da : List Int) (u : List Nat) (s : Int) : Prop := (s = -1 ∧ DeadW ps u) ∨ (0 ≤ s ∧ s < (dn.length : Int) ∧ ∃ all nx ac ok cl order, (SubOk ps all nx ac ∧ UseOk nx ac ok ∧ ClOk (cutR nx ok) ac cl ∧ FinOk (cutR nx ok) ac cl order dn da) ∧ ∃ o q : Nat, order[s.toNat]? = some o ∧ all[q]? = some (runS ps u) ∧ cl.getD o 0 = cl.getD q 0)
theorem stands_zero {ps : List Ps} {dn : List (List Int)} {da : List Int} (h : DfaOk ps dn da) : StandsAt ps dn da [] 0 := by
  obtain ⟨all, nx, ac, ok, cl, order, S, U, C, F⟩ := h
  have h0 : 0 < order.length := (List.getElem?_eq_some_iff.1 F.zero).1
  exact .inr ⟨by omega, by rw [F.n1]; omega, all, nx, ac, ok, cl, order, ⟨S, U, C, F⟩, 0, 0, F.zero, S.zero, rfl⟩
theorem stands_acc {ps : List Ps} {dn : List (List Int)} {da : List Int} {u : List Nat} {s : Int} (h : StandsAt ps dn da u s) (h0 : 0 ≤ s) : isSt dn da s ∧ da.getD s.toNat 0 = acceptsF ps (runS ps u) := by
  rcases h with ⟨h1, _⟩ | ⟨h1, h2, all, nx, ac, ok, cl, order, ⟨S, U, C, F⟩, o, q, h3, h4, h5⟩
  · omega
  · have hq : q < ac.length := by rw [S.n2]; exact (List.getElem?_eq_some_iff.1 h4).1
    have ho := F.lt o (List.mem_of_getElem? h3)
    refine ⟨⟨h1, h2, by rw [F.n2, ← F.n1]; exact h2⟩, ?_⟩
    rw [F.acc _ _ h3, C.acc o q ho hq h5, S.acc q _ h4]
theorem stands_step {ps : List Ps} {dn : List (List Int)} {da : List Int} {u : List Nat} {s : Int} {c : Nat} (hc : c < 256) (h : StandsAt ps dn da u s) (h0 : 0 ≤ s) : (stepD dn da s c < 0 ∧ DeadW ps (u ++ [c])) ∨ (0 ≤ stepD dn da s c ∧ StandsAt ps dn da (u ++ [c]) (stepD dn da s c)) := by
  rcases h with ⟨h1, _⟩ | ⟨h1, h2, all, nx, ac, ok, cl, order, ⟨S, U, C, F⟩, o, q, h3, h4, h5⟩
  · omega
  have hq : q < ac.length := by rw [S.n2]; exact (List.getElem?_eq_some_iff.1 h4).1
  have ho := F.lt o (List.mem_of_getElem? h3)
  have hst : isSt dn da s := ⟨h1, h2, by rw [F.n2, ← F.n1]; exact h2⟩
  have hsl : s.toNat < dn.length := by omega
  have hrow : (dn.getD s.toNat []).length = 256 := by
    rw [List.getD_eq_getElem?_getD, List.getElem?_eq_getElem hsl, Option.getD_some]
    exact F.row s.toNat _ (List.getElem?_eq_getElem hsl)
  have hstep : stepD dn da s c = if isSt dn da (cellI dn s.toNat c) then cellI dn s.toNat c else -1 := by
    have e : (dn.getD s.toNat []).getD (c : Int).toNat 0 = cellI dn s.toNat c := by
      unfold cellI
      generalize dn.getD s.toNat [] = R at *
      rw [Int.toNat_natCast, List.getD_eq_getElem?_getD, List.getD_eq_getElem?_getD, List.getElem?_eq_getElem (by omega)]
      rfl
    rw [← e]
    unfold stepD
    rw [if_pos hst]
    generalize dn.getD s.toNat [] = R at *
    exact if_pos (by omega)
  obtain ⟨hg1, hg2⟩ := C.go o q ho hq h5 c hc
  have hql : q < nx.length := by rw [S.n1]; exact (List.getElem?_eq_some_iff.1 h4).1
  have hcut : cellI (cutR nx ok) q c = cutV ok (cellI nx q c) := cutR_cell (List.getElem?_eq_getElem hql) (by rw [S.row q _ (List.getElem?_eq_getElem hql)]; exact hc)
  rcases F.go _ _ h3 c hc with ⟨k1, k2⟩ | ⟨k1, k, k2, o', k3, k4⟩
  · left
    refine ⟨by rw [hstep, k2, if_neg (by unfold isSt; omega)]; omega, fun v hv => ?_⟩
    have hlt := hg1.1 k1
    rw [hcut] at hlt
    have hneg : acceptsF ps (runS ps (u ++ [c] ++ v)) < 0 := by
      rw [runS_app, runS_snoc]
      rcases S.go q _ h4 c hc with ⟨e1, _⟩ | ⟨e1, j, e2, e3⟩
      · rw [e1, run_nil]; simp [acceptsF]
      · refine useless_dead S U v j _ hv e3 ?_
        rw [e2] at hlt
        unfold cutV at hlt
        split at hlt
        · rename_i e; simpa using e.2
        · omega
    have := acc_lo ps (u ++ [c] ++ v)
    omega
  · right
    have hkl : k < order.length := (List.getElem?_eq_some_iff.1 k3).1
    have hsk : isSt dn da (k : Int) := ⟨by omega, by rw [F.n1]; omega, by rw [F.n2]; omega⟩
    have hsv : stepD dn da s c = (k : Int) := by rw [hstep, k2, if_pos hsk]
    rw [hsv]
    refine ⟨by omega, .inr ⟨by omega, hsk.2.1, all, nx, ac, ok, cl, order, ⟨S, U, C, F⟩, o', ?_⟩⟩
    have h6 := hg2 k1
    have h7 : ¬ cellI (cutR nx ok) q c < 0 := fun e => by have := hg1.2 e; omega
    rw [hcut] at h6 h7
    rcases S.go q _ h4 c hc with ⟨_, e2⟩ | ⟨e1, j, e2, e3⟩
    · rw [e2] at h7
      unfold cutV at h7
      rw [if_neg (by omega)] at h7
      omega
    · rw [e2] at h6 h7
      unfold cutV at h6 h7
      split at h7
      · omega
      · rename_i e
        rw [if_neg e] at h6
        exact ⟨j, by simpa using k3, by rw [runS_snoc]; exact e3, by rw [k4, h6]; simp⟩
/-- What is wanted: the longest row that is taken, and by which pattern. -/
def wantL (ps : List Ps) : List Nat → Int × Int → List Nat → Int × Int
  | _, x, [] => x
  | u, x, c :: cs => wantL ps (u ++ [c]) (if 0 ≤ acceptsF ps (runS ps (u ++ [c])) then (acceptsF ps (runS ps (u ++ [c])), (u.length : Int) + 1) else x) cs
theorem want_dead {ps : List Ps} : ∀ (cs u : List Nat) (x : Int × Int), (∀ c ∈ cs, c < 256) → DeadW ps u → wantL ps u x cs = x
  | [], _, _, _, _ => rfl
  | c :: cs, u, x, hc, h => by
    have h1 := h [c] (by simpa using hc c (by simp))
    rw [wantL, h1, if_neg (by omega)]
    refine want_dead cs _ x (fun d hd => hc d (by simp [hd])) fun v hv => ?_
    have := h (c :: v) (by simp only [List.mem_cons, forall_eq_or_imp]; exact ⟨hc c (by simp), hv⟩)
    simpa using this
theorem runD_want {ps : List Ps} {dn : List (List Int)} {da : List Int} : ∀ (cs u : List Nat) (s r l : Int), (∀ c ∈ cs, c < 256) → StandsAt ps dn da u s → 0 ≤ s →
    (runD dn da s r l u.length (cs.map fun (c : Nat) => (c : Int))).1 = (wantL ps u (r, l) cs).1 ∧ (runD dn da s r l u.length (cs.map fun (c : Nat) => (c : Int))).2.1 = (wantL ps u (r, l) cs).2
  | [], u, s, r, l, _, _, _ => ⟨rfl, rfl⟩
  | c :: cs, u, s, r, l, hc, h, h0 => by
    have hc2 : ∀ d ∈ cs, d < 256 := fun d hd => hc d (by simp [hd])
    rw [List.map_cons, runD, wantL]
    rcases stands_step (hc c (by simp)) h h0 with ⟨h1, h2⟩ | ⟨h1, h2⟩
    · rw [if_pos h1]
      have h3 := h2 [] (by simp)
      rw [List.append_nil] at h3
      rw [h3, if_neg (by omega), want_dead cs _ _ hc2 h2]
      exact ⟨rfl, rfl⟩
    · rw [if_neg (by omega)]
      obtain ⟨h3, h4⟩ := stands_acc h2 h1
      have h5 : accD dn da (stepD dn da s c) = acceptsF ps (runS ps (u ++ [c])) := by
        unfold accD
        rw [if_pos h3, h4]
        have := acc_lo ps (u ++ [c]); omega
      rw [h5]
      have hl : (((u ++ [c]).length : Nat) : Int) = (u.length : Int) + 1 := by simp
      split
      · have := runD_want cs (u ++ [c]) (stepD dn da s c) (acceptsF ps (runS ps (u ++ [c]))) ((u.length : Int) + 1) hc2 h2 h1
        rwa [hl] at this
      · have := runD_want cs (u ++ [c]) (stepD dn da s c) r l hc2 h2 h1
        rwa [hl] at this
/-- How far is looked, and that nothing behind it counts. -/
theorem runD_look {dn : List (List Int)} {da : List Int} : ∀ (cs : List Int) (s r l i : Int), 0 ≤ i → l ≤ i → (runD dn da s r l i cs).2.1 ≤ (runD dn da s r l i cs).2.2 ∧ i + 1 ≤ (runD dn da s r l i cs).2.2 ∧ (runD dn da s r l i cs).2.2 ≤ i + cs.length + 1 ∧
    ((runD dn da s r l i cs).2.2 ≤ i + cs.length → ∀ other, runD dn da s r l i (cs.take ((runD dn da s r l i cs).2.2 - i).toNat ++ other) = runD dn da s r l i cs)
  | [], s, r, l, i, h0, hl => by
    simp only [runD, List.length_nil]
    exact ⟨by omega, by omega, by omega, fun h => by omega⟩
  | c :: cs, s, r, l, i, h0, hl => by
    rw [runD]
    split
    · rename_i h
      refine ⟨by simp only; omega, by simp only; omega, by simp only [List.length_cons]; omega, fun _ other => ?_⟩
      simp only
      rw [show (i + 1 - i).toNat = 1 by omega, List.take_succ_cons, List.take_zero, List.singleton_append, runD, if_pos h]
    · rename_i h
      split
      · rename_i h2
        obtain ⟨e1, e2, e3, e4⟩ := runD_look cs (stepD dn da s c) (accD dn da (stepD dn da s c)) (i + 1) (i + 1) (by omega) (by omega)
        refine ⟨e1, by omega, by rw [List.length_cons]; omega, fun hle other => ?_⟩
        have e5 := e4 (by rw [List.length_cons] at hle; omega) other
        generalize hR : runD dn da (stepD dn da s c) (accD dn da (stepD dn da s c)) (i + 1) (i + 1) cs = R at *
        rw [show (R.2.2 - i).toNat = (R.2.2 - (i + 1)).toNat + 1 by omega, List.take_succ_cons, List.cons_append, runD, if_neg h, if_pos h2]
        exact e5
      · rename_i h2
        obtain ⟨e1, e2, e3, e4⟩ := runD_look cs (stepD dn da s c) r l (i + 1) (by omega) (by omega)
        refine ⟨e1, by omega, by rw [List.length_cons]; omega, fun hle other => ?_⟩
        have e5 := e4 (by rw [List.length_cons] at hle; omega) other
        generalize hR : runD dn da (stepD dn da s c) r l (i + 1) cs = R at *
        rw [show (R.2.2 - i).toNat = (R.2.2 - (i + 1)).toNat + 1 by omega, List.take_succ_cons, List.cons_append, runD, if_neg h, if_neg h2]
        exact e5
end Go.Proofs.Ytobpbelgihilpaa.Ab
/- Chapters 4 and 5: the reference's less, add, in, same: the walk; structs of numbers held against each other by !=. No condition. -/
set_option linter.unusedVariables false
set_option linter.unusedSimpArgs false
namespace Go.Proofs.Ytobpbelgihilpaa.Ab
section
variable {P : Program} {T : List TI} {N : Nat} {ops : Array Oper} {o : Oper} {rest : List Oper} {Q : Exit → St → Prop} {E F : Env} {M : List Ob}
theorem aops_nest (hT : TOk P T) {t t' d e : Nat} {x y : Operand} (l m : List Int) (ho : o.op = .binOp .neq t x y t') (ht : kindOf T t = some (.struct ((List.range' 0 l.length).map fun i => (i, e)))) (he : kindOf T e = some (.int .i64)) (hB : eqstB P t = true) (hx : opA E x = .agg (ints l)) (hy : opA E y = .agg (ints m)) (hlm : l.length = m.length) (hg : guardOn ops o E = some true) (hd : o.dst = some d) (hN : Nat.blt d N = true)
    (next : AOps P N ops rest Q ⟨(d, .bool (!(l == m))) :: E, M⟩) : AOps P N ops (o :: rest) Q ⟨E, M⟩ := by
  refine aops_val hg (by rw [hd]; exact hN) (.bool (!(l == m))) M (fun K G av w hi => ?_) (by rw [hd]; exact next)
  have hrx := opA_rep hi x
  have hry := opA_rep hi y
  rw [hx] at hrx; rw [hy] at hry
  obtain ⟨vx, ex, rx⟩ := hrx
  obtain ⟨vy, ey, ry⟩ := hry
  have e1 := ints_val rx
  have e2 := ints_val ry
  subst e1; subst e2
  simp only [eqstB, Bool.and_eq_true, Bool.not_eq_true'] at hB
  obtain ⟨⟨b1, b2⟩, b3⟩ := hB
  obtain ⟨ti, hti, hk⟩ := Option.map_eq_some_iff.1 ht
  obtain ⟨k1, k2⟩ := known_spec hti
  obtain ⟨tk, ts, tb, tz⟩ := ti
  simp only at hk
  subst hk
  obtain ⟨gs, hu, hgs⟩ := und_struct (hT.get k1 k2)
  have hfo : P.fieldsOf t = gs := by simp [Program.fieldsOf, hu]
  obtain ⟨ei, hei, hke⟩ := Option.map_eq_some_iff.1 he
  obtain ⟨k3, k4⟩ := known_spec hei
  have hlen : gs.toList.length = l.length := by have := congrArg List.length hgs; simpa using this
  have hF := eqFields_ints (hT.get k3 k4) hke l m 9998 w gs.toList 0 (by rw [hlen]; exact hgs) (fun f hf => by
    have := Array.all_eq_true_iff_forall_mem.1 b1 f (by rw [hfo]; exact Array.mem_toList_iff.1 hf)
    simpa using this) (by omega) (by omega)
  refine ⟨.bool (!(l == m)), w, G, ?_, hi.ok, G.le_refl, rfl⟩
  have hE : (Op.equalIn (9999 + 1) t (.agg (l.map (Value.int .i64)).toArray) (.agg (m.map (Value.int .i64)).toArray)).run P w = .ok (l == m) w := by
    rw [run_equalIn_agg w 9999 t _ _ (by rw [hfo]; exact hu) b2, hfo, hF]
    rfl
  have hq : (binOp .neq t (.agg (l.map (Value.int .i64)).toArray) (.agg (m.map (Value.int .i64)).toArray)).run P w = .ok (.bool (!(l == m))) w := by
    have e : Op.maxDepth = 9999 + 1 := rfl
    simp only [binOp, Op.equal, e]
    simp [hE]
  simp only [execOp, ho, ex, ey, Sem.run_bind, run_eqGuard_agg w .neq t x y _ _ b3, hq, Result.andThen_ok]
  rfl
theorem yields_nest (hT : TOk P T) {t t' d e : Nat} {x y : Operand} (l m : List Int) (ho : o.op = .binOp .neq t x y t') (ht : kindOf T t = some (.struct ((List.range' 0 l.length).map fun i => (i, e)))) (he : kindOf T e = some (.int .i64)) (hB : eqstB P t = true) (hx : opA F x = .agg (ints l)) (hy : opA F y = .agg (ints m)) (hlm : l.length = m.length) (hg : guardOn ops o F = some true) (hd : o.dst = some d) (hN : Nat.blt d N = true) : Yields P N ops o (.bool (!(l == m))) F M := by
  intro E hE rest Q next
  rw [hd] at next
  exact aops_nest hT l m ho ht he hB ((agree_op hE (by rw [ho]; simp [Op.operands])).trans hx) ((agree_op hE (by rw [ho]; simp [Op.operands])).trans hy) hlm ((agree_guard hE).trans hg) hd hN next
end

attribute [local irreducible] thenA inBlockA ACode AOps put IntKind.wrap
def spC (x : Sp) : List A := [.int .i64 x.1, .int .i64 x.2]
def spL (x : Sp) : List Int := [x.1, x.2]
theorem spC_len (x : Sp) : (spC x).length = 2 := rfl
theorem spL_eq (a b : Sp) : (spL a == spL b) = decide (a = b) := by
  obtain ⟨a1, a2⟩ := a; obtain ⟨b1, b2⟩ := b
  rw [Bool.eq_iff_iff]
  simp [spL]
theorem sp_at {l : List Sp} {i : Int} {x : Sp} (h : l[i.toNat]? = some x) : spC x <+: (encs spC l).drop (i.toNat * 2) := encs_at (e := spC) (s := 2) (fun _ => rfl) h
theorem sless_calls {a b : Sp} (M : List Ob) : ACalls Try.prog 34 [.agg (spC a), .agg (spC b)] M (fun r M' => r = .bool (lessS a b) ∧ M' = M) := by
  obtain ⟨a1, a2⟩ := a; obtain ⟨b1, b2⟩ := b
  unfold spC lessS
  refine acalls_of_code 24 Try.func34 rfl rfl rfl ?_
  repeat (first | refine acode_seq ?_ | refine acode_region ?_)
  refine aops_boxf rfl rfl rfl rfl rfl rfl rfl ?_
  refine aops_boxf rfl rfl rfl rfl rfl rfl rfl ?_
  by_cases h1 : a1 < b1
  · repeat' (first | refine aops_end ?_ | refine aops_o rfl rfl rfl ?_ | refine aops_pbt tok rfl (by first | omega | decide) rfl rfl rfl ?_ | refine aops_p tok rfl rfl rfl rfl ?_ | refine acode_seq ?_ | refine acode_region ?_)
    all_goals try (exfalso; omega)
    refine acode_ret ?_
    skip
    exact ⟨.bool (_ || _), ⟨rfl, rfl⟩, resOf_tmp (by simp only [decide_eq_true h1, Bool.true_or]; rfl)⟩
  · by_cases h2 : a1 = b1
    · by_cases h3 : a2 < b2
      · repeat' (first | refine aops_end ?_ | refine aops_pbt tok rfl (by first | omega | decide) rfl rfl rfl ?_ | refine aops_pbf tok rfl (by first | omega | decide) rfl rfl rfl ?_ | refine aops_p tok rfl rfl rfl rfl ?_ | refine acode_seq ?_ | refine acode_region ?_)
        all_goals try (exfalso; omega)
        refine acode_ret ?_
        skip
        exact ⟨.bool (_ || _), ⟨rfl, rfl⟩, resOf_tmp (by simp only [decide_eq_false h1, decide_eq_true h2, decide_eq_true h3]; rfl)⟩
      · repeat' (first | refine aops_end ?_ | refine aops_pbt tok rfl (by first | omega | decide) rfl rfl rfl ?_ | refine aops_pbf tok rfl (by first | omega | decide) rfl rfl rfl ?_ | refine aops_p tok rfl rfl rfl rfl ?_ | refine acode_seq ?_ | refine acode_region ?_)
        all_goals try (exfalso; omega)
        refine acode_ret ?_
        skip
        exact ⟨.bool (_ || _), ⟨rfl, rfl⟩, resOf_tmp (by simp only [decide_eq_false h1, decide_eq_true h2, decide_eq_false h3]; rfl)⟩
    · repeat' (first | refine aops_end ?_ | refine aops_o rfl rfl rfl ?_ | refine aops_pbf tok rfl (by first | omega | decide) rfl rfl rfl ?_ | refine aops_p tok rfl rfl rfl rfl ?_ | refine acode_seq ?_ | refine acode_region ?_)
      all_goals try (exfalso; omega)
      refine acode_ret ?_
      skip
      exact ⟨.bool (_ || _), ⟨rfl, rfl⟩, resOf_tmp (by simp only [decide_eq_false h1, decide_eq_false h2]; rfl)⟩
theorem sin_calls {l : List Int} {n : Int} (hl : l.length ≤ 9223372036854775807) (M : List Ob) : ACalls Try.prog 35 [.psl l.length (ints l), .int .i64 n] M (fun r M' => r = .bool (l.contains n) ∧ M' = M) := by
  refine acalls_of_code 18 Try.func35 rfl rfl rfl ?_
  repeat (first | refine aops_end ?_ | refine aops_p tok rfl rfl rfl rfl ?_ | refine acode_seq ?_ | refine acode_region ?_ | refine acode_block ?_)
  refine acode_loopS (ι := Nat) (fun i => [(0, .psl l.length (ints l)), (1, .int .i64 n), (5, .int .i64 i)]) (fun _ => M) (fun i => l.length - i) (fun i => i ≤ l.length ∧ (l.drop i).contains n = l.contains n) 0 ⟨Nat.zero_le _, rfl⟩ ⟨rfl, rfl, rfl, trivial⟩ rfl ?_
  rintro i ⟨hi, hgo⟩
  by_cases hil : i < l.length
  · obtain ⟨x, hx⟩ : ∃ x, l[i]? = some x := ⟨l[i], List.getElem?_eq_getElem hil⟩
    rw [drop_at hx, List.contains_cons] at hgo
    by_cases hnx : x = n
    · rw [← hgo]
      subst hnx
      repeat' (first | refine aops_end ?_ | refine aops_pbt tok rfl (by first | omega | decide) rfl rfl rfl ?_ | refine aops_p tok rfl rfl rfl rfl ?_ | refine acode_it rfl ?_ | refine acode_seq ?_ | refine acode_region ?_ | refine acode_block ?_ | refine acode_skip ?_ | refine then_n ?_)
      all_goals try (exfalso; omega)
      refine aops_ix tok [.int .i64 x] rfl rfl rfl rfl (by omega) (by omega) (by simp) (ints_at (by simpa using hx)) rfl rfl rfl ?_
      repeat' (first | refine aops_end ?_ | refine aops_pbt tok rfl (by first | omega | decide) rfl rfl rfl ?_ | refine aops_p tok rfl rfl rfl rfl ?_ | refine acode_it rfl ?_ | refine acode_seq ?_ | refine acode_region ?_)
      all_goals try (exfalso; omega)
      refine acode_ret ?_
      repeat (first | refine ret_then ?_ | refine ret_block ?_)
      exact ⟨.bool (_ || _), ⟨rfl, rfl⟩, resOf_tmp (by simp; rfl)⟩
    · have hnx' : (n == x) = false := by simpa using fun e : n = x => hnx e.symm
      rw [hnx', Bool.false_or] at hgo
      repeat' (first | refine aops_end ?_ | refine aops_pbt tok rfl (by first | omega | decide) rfl rfl rfl ?_ | refine aops_p tok rfl rfl rfl rfl ?_ | refine acode_it rfl ?_ | refine acode_seq ?_ | refine acode_region ?_ | refine acode_block ?_ | refine acode_skip ?_ | refine then_n ?_)
      all_goals try (exfalso; omega)
      refine aops_ix tok [.int .i64 x] rfl rfl rfl rfl (by omega) (by omega) (by simp) (ints_at (by simpa using hx)) rfl rfl rfl ?_
      repeat' (first | refine aops_end ?_ | refine aops_a tok rfl (by omega) (by omega) rfl rfl rfl ?_ | refine aops_pbf tok rfl (by first | omega | decide) rfl rfl rfl ?_ | refine aops_p tok rfl rfl rfl rfl ?_ | refine acode_if rfl ?_ | refine acode_region ?_ | refine acode_skip ?_ | refine then_n ?_ | refine block_n ?_)
      all_goals try (exfalso; omega)
      exact ⟨i + 1, ⟨by omega, hgo⟩, by omega, ⟨rfl, rfl, rfl, trivial⟩, rfl⟩
  · obtain rfl : i = l.length := by omega
    rw [List.drop_length] at hgo
    rw [← hgo]
    repeat' (first | refine aops_end ?_ | refine aops_pbf tok rfl (by first | omega | decide) rfl rfl rfl ?_ | refine aops_p tok rfl rfl rfl rfl ?_ | refine acode_if rfl ?_ | refine acode_seq ?_ | refine acode_region ?_)
    all_goals try (exfalso; omega)
    refine acode_exit ?_
    repeat (first | refine exit_then ?_ | refine exit_here ?_ | refine then_n ?_)
    repeat (first | refine aops_end ?_ | refine aops_p tok rfl rfl rfl rfl ?_ | refine acode_seq ?_ | refine acode_region ?_)
    refine acode_ret ?_
    skip
    exact ⟨_, ⟨rfl, rfl⟩, resOf_tmp rfl⟩
theorem ssame_calls {a b : List Sp} (ha : a.length ≤ 9223372036854775807) (hb : b.length ≤ 9223372036854775807) (M : List Ob) : ACalls Try.prog 28 [.psl a.length (encs spC a), .psl b.length (encs spC b)] M (fun r M' => r = .bool (decide (a = b)) ∧ M' = M) := by
  refine acalls_of_code 26 Try.func28 rfl rfl rfl ?_
  by_cases hl : a.length = b.length
  rotate_left
  · have hne : ¬ a = b := fun e => hl (by rw [e])
    rw [decide_eq_false hne]
    repeat' (first | refine aops_end ?_ | (refine aops_pn tok rfl rfl rfl rfl ?_ ?_ <;> intro e_) | refine aops_p tok rfl rfl rfl rfl ?_ | refine acode_it rfl ?_ | refine acode_if rfl ?_ | refine acode_seq ?_ | refine acode_region ?_ | refine acode_block ?_ | refine acode_skip ?_ | refine then_n ?_)
    all_goals try (exfalso; omega)
    all_goals
      refine acode_ret ?_
      repeat (refine ret_then ?_)
      exact ⟨_, ⟨rfl, rfl⟩, resOf_tmp rfl⟩
  repeat' (first | refine aops_end ?_ | (refine aops_pn tok rfl rfl rfl rfl ?_ ?_ <;> intro e_) | refine aops_p tok rfl rfl rfl rfl ?_ | refine acode_it rfl ?_ | refine acode_if rfl ?_ | refine acode_seq ?_ | refine acode_region ?_ | refine acode_block ?_ | refine acode_skip ?_ | refine then_n ?_)
  all_goals try (exfalso; omega)
  refine acode_loopS (ι := Nat) (fun i => [(0, .psl a.length (encs spC a)), (1, .psl b.length (encs spC b)), (5, .int .i64 i)]) (fun _ => M) (fun i => a.length - i) (fun i => i ≤ a.length ∧ (a = b ↔ a.drop i = b.drop i)) 0 ⟨Nat.zero_le _, Iff.rfl⟩ ⟨rfl, rfl, rfl, trivial⟩ rfl ?_
  rintro i ⟨hi, hgo⟩
  by_cases hil : i < a.length
  · obtain ⟨x, hx⟩ : ∃ x, a[i]? = some x := ⟨a[i], List.getElem?_eq_getElem hil⟩
    obtain ⟨y, hy⟩ : ∃ y, b[i]? = some y := ⟨b[i], List.getElem?_eq_getElem (by omega)⟩
    rw [drop_at hx, drop_at hy, List.cons.injEq] at hgo
    repeat' (first | refine aops_end ?_ | refine aops_pbt tok rfl (by first | omega | decide) rfl rfl rfl ?_ | refine aops_p tok rfl rfl rfl rfl ?_ | refine acode_it rfl ?_ | refine acode_seq ?_ | refine acode_region ?_ | refine acode_block ?_ | refine acode_skip ?_ | refine then_n ?_)
    all_goals try (exfalso; omega)
    refine acode_drawT 9 mixed (by kernel_rfl) (by kernel_rfl) ?_
    repeat (refine seqT_p tok rfl rfl rfl rfl ?_)
    refine seqT_ix tok (spC x) rfl rfl rfl rfl (by omega) (by omega) (by simp [spC]) (sp_at (by simpa using hx)) rfl rfl rfl ?_
    repeat (refine seqT_p tok rfl rfl rfl rfl ?_)
    refine seqT_ix tok (spC y) rfl rfl rfl rfl (by omega) (by omega) (by simp [spC]) (sp_at (by simpa using hy)) rfl rfl rfl ?_
    repeat (refine seqT_p tok rfl rfl rfl rfl ?_)
    refine seqT_y (yields_nest tok (spL x) (spL y) rfl rfl rfl (by kernel_rfl) rfl rfl rfl rfl rfl rfl) rfl ?_
    refine SeqT.done ?_
    rw [spL_eq]
    by_cases hxy : x = y
    · rw [decide_eq_true hxy]
      repeat' (first | refine aops_end ?_ | refine aops_a tok rfl (by omega) (by omega) rfl rfl rfl ?_ | refine aops_p tok rfl rfl rfl rfl ?_ | refine acode_if rfl ?_ | refine acode_region ?_ | refine acode_skip ?_ | refine then_n ?_ | refine block_n ?_)
      exact ⟨i + 1, ⟨by omega, hgo.trans ⟨fun e => e.2, fun e => ⟨hxy, e⟩⟩⟩, by omega, ⟨rfl, rfl, rfl, trivial⟩, rfl⟩
    · rw [decide_eq_false hxy]
      have hne : ¬ a = b := fun e => hxy (hgo.1 e).1
      rw [decide_eq_false hne]
      repeat' (first | refine aops_end ?_ | refine aops_p tok rfl rfl rfl rfl ?_ | refine acode_it rfl ?_ | refine acode_seq ?_ | refine acode_region ?_)
      refine acode_ret ?_
      repeat (first | refine ret_then ?_ | refine ret_block ?_)
      exact ⟨_, ⟨rfl, rfl⟩, resOf_tmp rfl⟩
  · obtain rfl : i = a.length := by omega
    have heq : a = b := hgo.2 (by rw [List.drop_length, hl, List.drop_length])
    rw [decide_eq_true heq]
    repeat' (first | refine aops_end ?_ | refine aops_pbf tok rfl (by first | omega | decide) rfl rfl rfl ?_ | refine aops_p tok rfl rfl rfl rfl ?_ | refine acode_if rfl ?_ | refine acode_seq ?_ | refine acode_region ?_)
    all_goals try (exfalso; omega)
    refine acode_exit ?_
    repeat (first | refine exit_then ?_ | refine exit_here ?_ | refine then_n ?_)
    repeat (first | refine aops_end ?_ | refine aops_p tok rfl rfl rfl rfl ?_ | refine acode_seq ?_ | refine acode_region ?_)
    refine acode_ret ?_
    skip
    exact ⟨_, ⟨rfl, rfl⟩, resOf_tmp rfl⟩
end Go.Proofs.Ytobpbelgihilpaa.Ab
/- Chapters 4 and 5: the reference's union and add: the walk. No condition. -/
set_option linter.unusedVariables false
set_option linter.unusedSimpArgs false
namespace Go.Proofs.Ytobpbelgihilpaa.Ab
attribute [local irreducible] thenA inBlockA ACode AOps put IntKind.wrap

theorem unionF_len : ∀ (a b : List Int), (unionF a b).length ≤ a.length + b.length
  | [], b => by simp [unionF]
  | x :: a, [] => by simp [unionF]
  | x :: a, y :: b => by
    rw [unionF]
    split
    · have := unionF_len a (y :: b); simp only [List.length_cons] at *; omega
    · split
      · have := unionF_len (x :: a) b; simp only [List.length_cons] at *; omega
      · have := unionF_len a b; simp only [List.length_cons] at *; omega
termination_by a b => a.length + b.length
set_option maxHeartbeats 8000000 in
theorem sunion_calls {a b : List Int} (ha : a.length ≤ 100000000) (hb : b.length ≤ 100000000) (M : List Ob) : ACalls Try.prog 22 [.psl a.length (ints a), .psl b.length (ints b)] M (fun r M' => r = .psl (unionF a b).length (ints (unionF a b)) ∧ M' = M) := by
  have hul := unionF_len a b
  refine acalls_frozen (sz := 1) (by rw [ints_len, Nat.mul_one]) (by decide) ?_
  refine acalls_of_code 86 Try.func22 rfl rfl rfl ?_
  repeat (first | refine aops_end ?_ | refine aops_p tok rfl rfl rfl rfl ?_ | refine acode_seq ?_ | refine acode_region ?_ | refine acode_block ?_)
  refine acode_adopt 5 1 rfl ?_
  refine acode_loopS (ι := Nat × Nat × List Int × Option Nat × Nat) (fun q => [(0, .psl a.length (ints a)), (1, .psl b.length (ints b)), (5, .own q.2.2.2.1 q.2.2.1.length q.2.2.2.2), (6, .int .i64 q.1), (7, .int .i64 q.2.1)]) (fun q => ⟨q.2.2.2.1, q.2.2.2.2 * 1, ints q.2.2.1⟩ :: M) (fun q => (a.length - q.1) + (b.length - q.2.1)) (fun q => q.1 ≤ a.length ∧ q.2.1 ≤ b.length ∧ q.2.2.1 ++ unionF (a.drop q.1) (b.drop q.2.1) = unionF a b) (0, 0, [], none, 0) ⟨Nat.zero_le _, Nat.zero_le _, by simp⟩ ⟨rfl, rfl, rfl, rfl, rfl, trivial⟩ rfl ?_
  rintro ⟨i, k, out, ob, cap⟩ ⟨hi, hk, hgo⟩
  simp only at hi hk hgo ⊢
  have hol : out.length ≤ 200000000 := by
    have := congrArg List.length hgo
    rw [List.length_append] at this
    omega
  by_cases hia : i < a.length
  · obtain ⟨x, hx⟩ : ∃ x, a[i]? = some x := ⟨a[i], List.getElem?_eq_getElem hia⟩
    by_cases hkb : k < b.length
    · obtain ⟨y, hy⟩ : ∃ y, b[k]? = some y := ⟨b[k], List.getElem?_eq_getElem hkb⟩
      rw [drop_at hx, drop_at hy, unionF, ← drop_at hx, ← drop_at hy] at hgo
      by_cases h1 : x < y
      · rw [if_pos h1] at hgo
        repeat' (first | refine aops_end ?_ | refine aops_o rfl rfl rfl ?_ | refine aops_pbt tok rfl (by first | omega | decide) rfl rfl rfl ?_ | refine aops_p tok rfl rfl rfl rfl ?_ | refine acode_it rfl ?_ | refine acode_seq ?_ | refine acode_region ?_ | refine acode_block ?_ | refine acode_skip ?_ | refine then_n ?_)
        all_goals try (exfalso; omega)
        refine acode_drawT 22 mixed (by kernel_rfl) (by kernel_rfl) ?_
        repeat' (first | refine seqT_o rfl rfl rfl ?_ | (refine seqT_pd tok rfl rfl rfl rfl ?_ ?_ <;> intro e_) | refine seqT_p tok rfl rfl rfl rfl ?_)
        all_goals try (exfalso; omega)
        refine seqT_ix tok [.int .i64 x] rfl rfl rfl rfl (by omega) (by omega) (by simp) (ints_at (by simpa using hx)) rfl rfl rfl ?_
        repeat (refine seqT_p tok rfl rfl rfl rfl ?_)
        refine seqT_ix tok [.int .i64 y] rfl rfl rfl rfl (by omega) (by omega) (by simp) (ints_at (by simpa using hy)) rfl rfl rfl ?_
        repeat' (first | (refine seqT_pd tok rfl rfl rfl rfl ?_ ?_ <;> intro e_) | refine seqT_p tok rfl rfl rfl rfl ?_)
        all_goals try (exfalso; omega)
        refine SeqT.done ?_
        repeat' (first | refine aops_end ?_ | refine aops_p tok rfl rfl rfl rfl ?_ | refine acode_it rfl ?_ | refine acode_seq ?_ | refine acode_region ?_)
        refine aops_ix tok [.int .i64 x] rfl rfl rfl rfl (by omega) (by omega) (by simp) (ints_at (by simpa using hx)) rfl rfl rfl ?_
        repeat (refine aops_p tok rfl rfl rfl rfl ?_)
        refine aops_litn tok rfl rfl rfl rfl rfl rfl rfl ?_
        refine aops_append tok 0 (m := 1) (ds := ints [x]) rfl rfl rfl (.inl rfl) rfl rfl (by rw [ints_len]; exact (Nat.mul_one _).symm) rfl rfl rfl (by show _ * 8 ≤ _; omega) (by omega) rfl rfl fun ob1 cap1 => ?_
        repeat (first | refine aops_put rfl ?_ | refine aops_end ?_ | refine aops_endb ?_ | refine aops_a tok rfl (by omega) (by omega) rfl rfl rfl ?_ | refine aops_p tok rfl rfl rfl rfl ?_ | refine acode_region ?_ | refine then_n ?_ | refine block_n ?_)
        refine ⟨(i + 1, k, out ++ [x], ob1, cap1), ⟨by simp only; omega, by simp only; omega, by rw [List.append_assoc]; exact hgo⟩, by simp only; omega, ⟨rfl, rfl, by rw [List.length_append]; rfl, rfl, rfl, trivial⟩, by simp only [ints_app]; rfl⟩
      · rw [if_neg h1] at hgo
        repeat' (first | refine aops_end ?_ | refine aops_o rfl rfl rfl ?_ | refine aops_pbt tok rfl (by first | omega | decide) rfl rfl rfl ?_ | refine aops_p tok rfl rfl rfl rfl ?_ | refine acode_it rfl ?_ | refine acode_seq ?_ | refine acode_region ?_ | refine acode_block ?_ | refine acode_skip ?_ | refine then_n ?_)
        all_goals try (exfalso; omega)
        refine acode_drawT 22 mixed (by kernel_rfl) (by kernel_rfl) ?_
        repeat' (first | refine seqT_o rfl rfl rfl ?_ | (refine seqT_pd tok rfl rfl rfl rfl ?_ ?_ <;> intro e_) | refine seqT_p tok rfl rfl rfl rfl ?_)
        all_goals try (exfalso; omega)
        refine seqT_ix tok [.int .i64 x] rfl rfl rfl rfl (by omega) (by omega) (by simp) (ints_at (by simpa using hx)) rfl rfl rfl ?_
        repeat (refine seqT_p tok rfl rfl rfl rfl ?_)
        refine seqT_ix tok [.int .i64 y] rfl rfl rfl rfl (by omega) (by omega) (by simp) (ints_at (by simpa using hy)) rfl rfl rfl ?_
        repeat' (first | (refine seqT_pd tok rfl rfl rfl rfl ?_ ?_ <;> intro e_) | refine seqT_p tok rfl rfl rfl rfl ?_)
        all_goals try (exfalso; omega)
        refine SeqT.done ?_
        repeat' (first | refine aops_end ?_ | refine acode_if rfl ?_ | refine acode_seq ?_)
        refine acode_drawT 16 mixed (by kernel_rfl) (by kernel_rfl) ?_
        repeat' (first | refine seqT_o rfl rfl rfl ?_ | (refine seqT_pd tok rfl rfl rfl rfl ?_ ?_ <;> intro e_) | refine seqT_p tok rfl rfl rfl rfl ?_)
        all_goals try (exfalso; omega)
        refine seqT_ix tok [.int .i64 y] rfl rfl rfl rfl (by omega) (by omega) (by simp) (ints_at (by simpa using hy)) rfl rfl rfl ?_
        repeat (refine seqT_p tok rfl rfl rfl rfl ?_)
        refine seqT_ix tok [.int .i64 x] rfl rfl rfl rfl (by omega) (by omega) (by simp) (ints_at (by simpa using hx)) rfl rfl rfl ?_
        by_cases h2 : y < x
        · rw [if_pos h2] at hgo
          repeat' (first | (refine seqT_pd tok rfl rfl rfl rfl ?_ ?_ <;> intro e_) | refine seqT_p tok rfl rfl rfl rfl ?_)
          all_goals try (exfalso; omega)
          refine SeqT.done ?_
          repeat' (first | refine aops_end ?_ | refine aops_p tok rfl rfl rfl rfl ?_ | refine acode_it rfl ?_ | refine acode_seq ?_ | refine acode_region ?_)
          refine aops_ix tok [.int .i64 y] rfl rfl rfl rfl (by omega) (by omega) (by simp) (ints_at (by simpa using hy)) rfl rfl rfl ?_
          repeat (refine aops_p tok rfl rfl rfl rfl ?_)
          refine aops_litn tok rfl rfl rfl rfl rfl rfl rfl ?_
          refine aops_append tok 0 (m := 1) (ds := ints [y]) rfl rfl rfl (.inl rfl) rfl rfl (by rw [ints_len]; exact (Nat.mul_one _).symm) rfl rfl rfl (by show _ * 8 ≤ _; omega) (by omega) rfl rfl fun ob1 cap1 => ?_
          repeat (first | refine aops_put rfl ?_ | refine aops_end ?_ | refine aops_endb ?_ | refine aops_a tok rfl (by omega) (by omega) rfl rfl rfl ?_ | refine aops_p tok rfl rfl rfl rfl ?_ | refine acode_region ?_ | refine then_n ?_ | refine block_n ?_)
          refine ⟨(i, k + 1, out ++ [y], ob1, cap1), ⟨by simp only; omega, by simp only; omega, by rw [List.append_assoc]; exact hgo⟩, by simp only; omega, ⟨rfl, rfl, by rw [List.length_append]; rfl, rfl, rfl, trivial⟩, by simp only [ints_app]; rfl⟩
        · rw [if_neg h2] at hgo
          repeat' (first | (refine seqT_pd tok rfl rfl rfl rfl ?_ ?_ <;> intro e_) | refine seqT_p tok rfl rfl rfl rfl ?_)
          all_goals try (exfalso; omega)
          refine SeqT.done ?_
          repeat' (first | refine aops_end ?_ | refine aops_p tok rfl rfl rfl rfl ?_ | refine acode_if rfl ?_ | refine acode_seq ?_ | refine acode_region ?_)
          refine aops_ix tok [.int .i64 x] rfl rfl rfl rfl (by omega) (by omega) (by simp) (ints_at (by simpa using hx)) rfl rfl rfl ?_
          repeat (refine aops_p tok rfl rfl rfl rfl ?_)
          refine aops_litn tok rfl rfl rfl rfl rfl rfl rfl ?_
          refine aops_append tok 0 (m := 1) (ds := ints [x]) rfl rfl rfl (.inl rfl) rfl rfl (by rw [ints_len]; exact (Nat.mul_one _).symm) rfl rfl rfl (by show _ * 8 ≤ _; omega) (by omega) rfl rfl fun ob1 cap1 => ?_
          repeat (first | refine aops_put rfl ?_ | refine aops_end ?_ | refine aops_endb ?_ | refine aops_a tok rfl (by omega) (by omega) rfl rfl rfl ?_ | refine aops_p tok rfl rfl rfl rfl ?_ | refine acode_seq ?_ | refine acode_region ?_ | refine then_n ?_ | refine block_n ?_)
          refine ⟨(i + 1, k + 1, out ++ [x], ob1, cap1), ⟨by simp only; omega, by simp only; omega, by rw [List.append_assoc]; exact hgo⟩, by simp only; omega, ⟨rfl, rfl, by rw [List.length_append]; rfl, rfl, rfl, trivial⟩, by simp only [ints_app]; rfl⟩
    · have hkb : k = b.length := by omega
      subst hkb
      rw [List.drop_length, unionF_nil] at hgo
      have hgo2 : out ++ ([x] ++ unionF (a.drop (i + 1)) (b.drop b.length)) = unionF a b := by
        rw [List.drop_length, unionF_nil, ← hgo, drop_at hx]; rfl
      replace hgo := hgo2
      repeat' (first | refine aops_end ?_ | refine aops_o rfl rfl rfl ?_ | refine aops_pbt tok rfl (by first | omega | decide) rfl rfl rfl ?_ | refine aops_p tok rfl rfl rfl rfl ?_ | refine acode_it rfl ?_ | refine acode_seq ?_ | refine acode_region ?_ | refine acode_block ?_ | refine acode_skip ?_ | refine then_n ?_)
      all_goals try (exfalso; omega)
      refine acode_drawT 22 mixed (by kernel_rfl) (by kernel_rfl) ?_
      repeat' (first | refine seqT_o rfl rfl rfl ?_ | (refine seqT_pd tok rfl rfl rfl rfl ?_ ?_ <;> intro e_) | refine seqT_p tok rfl rfl rfl rfl ?_)
      all_goals try (exfalso; omega)
      refine SeqT.done ?_
      repeat' (first | refine aops_end ?_ | refine aops_p tok rfl rfl rfl rfl ?_ | refine acode_it rfl ?_ | refine acode_seq ?_ | refine acode_region ?_)
      refine aops_ix tok [.int .i64 x] rfl rfl rfl rfl (by omega) (by omega) (by simp) (ints_at (by simpa using hx)) rfl rfl rfl ?_
      repeat (refine aops_p tok rfl rfl rfl rfl ?_)
      refine aops_litn tok rfl rfl rfl rfl rfl rfl rfl ?_
      refine aops_append tok 0 (m := 1) (ds := ints [x]) rfl rfl rfl (.inl rfl) rfl rfl (by rw [ints_len]; exact (Nat.mul_one _).symm) rfl rfl rfl (by show _ * 8 ≤ _; omega) (by omega) rfl rfl fun ob1 cap1 => ?_
      repeat (first | refine aops_put rfl ?_ | refine aops_end ?_ | refine aops_endb ?_ | refine aops_a tok rfl (by omega) (by omega) rfl rfl rfl ?_ | refine aops_p tok rfl rfl rfl rfl ?_ | refine acode_region ?_ | refine then_n ?_ | refine block_n ?_)
      refine ⟨(i + 1, b.length, out ++ [x], ob1, cap1), ⟨by simp only; omega, by simp only; omega, by rw [List.append_assoc]; exact hgo⟩, by simp only; omega, ⟨rfl, rfl, by rw [List.length_append]; rfl, rfl, rfl, trivial⟩, by simp only [ints_app]; rfl⟩
  · have hia : i = a.length := by omega
    subst hia
    rw [List.drop_length, nil_unionF] at hgo
    by_cases hkb : k < b.length
    · obtain ⟨y, hy⟩ : ∃ y, b[k]? = some y := ⟨b[k], List.getElem?_eq_getElem hkb⟩
      have hgo2 : out ++ ([y] ++ unionF (a.drop a.length) (b.drop (k + 1))) = unionF a b := by
        rw [List.drop_length, nil_unionF, ← hgo, drop_at hy]; rfl
      replace hgo := hgo2
      repeat' (first | refine aops_end ?_ | refine aops_pbt tok rfl (by first | omega | decide) rfl rfl rfl ?_ | refine aops_pbf tok rfl (by first | omega | decide) rfl rfl rfl ?_ | refine aops_p tok rfl rfl rfl rfl ?_ | refine acode_it rfl ?_ | refine acode_seq ?_ | refine acode_region ?_ | refine acode_block ?_ | refine acode_skip ?_ | refine then_n ?_)
      all_goals try (exfalso; omega)
      refine acode_drawT 22 mixed (by kernel_rfl) (by kernel_rfl) ?_
      repeat' (first | refine seqT_o rfl rfl rfl ?_ | (refine seqT_pd tok rfl rfl rfl rfl ?_ ?_ <;> intro e_) | refine seqT_p tok rfl rfl rfl rfl ?_)
      all_goals try (exfalso; omega)
      refine SeqT.done ?_
      repeat' (first | refine aops_end ?_ | refine acode_if rfl ?_ | refine acode_seq ?_)
      refine acode_drawT 16 mixed (by kernel_rfl) (by kernel_rfl) ?_
      repeat' (first | refine seqT_o rfl rfl rfl ?_ | (refine seqT_pd tok rfl rfl rfl rfl ?_ ?_ <;> intro e_) | refine seqT_p tok rfl rfl rfl rfl ?_)
      all_goals try (exfalso; omega)
      refine SeqT.done ?_
      repeat' (first | refine aops_end ?_ | refine aops_p tok rfl rfl rfl rfl ?_ | refine acode_it rfl ?_ | refine acode_seq ?_ | refine acode_region ?_)
      refine aops_ix tok [.int .i64 y] rfl rfl rfl rfl (by omega) (by omega) (by simp) (ints_at (by simpa using hy)) rfl rfl rfl ?_
      repeat (refine aops_p tok rfl rfl rfl rfl ?_)
      refine aops_litn tok rfl rfl rfl rfl rfl rfl rfl ?_
      refine aops_append tok 0 (m := 1) (ds := ints [y]) rfl rfl rfl (.inl rfl) rfl rfl (by rw [ints_len]; exact (Nat.mul_one _).symm) rfl rfl rfl (by show _ * 8 ≤ _; omega) (by omega) rfl rfl fun ob1 cap1 => ?_
      repeat (first | refine aops_put rfl ?_ | refine aops_end ?_ | refine aops_endb ?_ | refine aops_a tok rfl (by omega) (by omega) rfl rfl rfl ?_ | refine aops_p tok rfl rfl rfl rfl ?_ | refine acode_region ?_ | refine then_n ?_ | refine block_n ?_)
      refine ⟨(a.length, k + 1, out ++ [y], ob1, cap1), ⟨by simp only; omega, by simp only; omega, by rw [List.append_assoc]; exact hgo⟩, by simp only; omega, ⟨rfl, rfl, by rw [List.length_append]; rfl, rfl, rfl, trivial⟩, by simp only [ints_app]; rfl⟩
    · have hkb : k = b.length := by omega
      subst hkb
      rw [List.drop_length, List.append_nil] at hgo
      subst hgo
      repeat' (first | refine aops_end ?_ | refine aops_pbf tok rfl (by first | omega | decide) rfl rfl rfl ?_ | refine aops_p tok rfl rfl rfl rfl ?_ | refine acode_if rfl ?_ | refine acode_seq ?_ | refine acode_region ?_)
      all_goals try (exfalso; omega)
      refine acode_exit ?_
      repeat (first | refine exit_then ?_ | refine exit_here ?_ | refine then_n ?_)
      repeat (first | refine aops_end ?_ | refine aops_p tok rfl rfl rfl rfl ?_ | refine acode_seq ?_ | refine acode_region ?_)
      refine acode_ret ?_
      skip
      exact ⟨_, ⟨ob, cap, rfl, rfl⟩, resOf_tmp rfl⟩
end Go.Proofs.Ytobpbelgihilpaa.Ab
/- Chapter 5: the reference's add and accepts: the walk. No condition. -/
set_option linter.unusedVariables false
set_option linter.unusedSimpArgs false
namespace Go.Proofs.Ytobpbelgihilpaa.Ab
attribute [local irreducible] thenA inBlockA ACode AOps put IntKind.wrap

theorem addF_drop {l : List Sp} {s : Sp} {i : Nat} {y : Sp} (hy : l[i]? = some y) (hlo : lessS y s = true) (h : addF l s = l.take i ++ addF (l.drop i) s) : addF l s = l.take (i + 1) ++ addF (l.drop (i + 1)) s := by
  rw [h, drop_at hy, addF, if_pos hlo, List.take_add_one, hy]
  simp
set_option maxHeartbeats 4000000 in
theorem sadd_calls {l : List Sp} {s : Sp} (hl : l.length ≤ 100000000) (M : List Ob) : ACalls Try.prog 26 [.psl l.length (encs spC l), .agg (spC s)] M (fun r M' => r = .psl (addF l s).length (encs spC (addF l s)) ∧ M' = M) := by
  have hs0 : spC s = [.int .i64 s.1, .int .i64 s.2] := rfl
  refine acalls_of_code 44 Try.func26 rfl rfl rfl ?_
  repeat (first | refine acode_seq ?_ | refine acode_region ?_)
  refine aops_boxf rfl rfl rfl rfl rfl rfl rfl ?_
  repeat (refine aops_p tok rfl rfl rfl rfl ?_)
  refine aops_end ?_
  refine acode_seq ?_
  refine acode_region ?_
  repeat (refine aops_p tok rfl rfl rfl rfl ?_)
  refine aops_end ?_
  refine acode_seq ?_
  refine acode_joinI (ι := Nat) (fun k => [(0, .psl l.length (encs spC l)), (3, .pp [.int .i64 s.1, .int .i64 s.2]), (5, .int .i64 k)]) (fun _ => M) (fun k => k ≤ l.length ∧ addF l s = l.take k ++ addF (l.drop k) s ∧ ∀ y, l[k]? = some y → lessS y s = false) ?_ ?_
  · repeat (refine acode_block ?_)
    refine acode_loopS (ι := Nat) (fun k => [(0, .psl l.length (encs spC l)), (3, .pp [.int .i64 s.1, .int .i64 s.2]), (5, .int .i64 k)]) (fun _ => M) (fun k => l.length - k) (fun k => k ≤ l.length ∧ addF l s = l.take k ++ addF (l.drop k) s) 0 ⟨Nat.zero_le _, by simp⟩ ⟨rfl, rfl, rfl, trivial⟩ rfl ?_
    rintro k ⟨hk1, hk2⟩
    by_cases hkl : k < l.length
    · obtain ⟨y, hy⟩ : ∃ y, l[k]? = some y := ⟨l[k], List.getElem?_eq_getElem hkl⟩
      repeat (refine acode_seq ?_)
      refine acode_drawT 12 mixed (by kernel_rfl) (by kernel_rfl) ?_
      repeat' (first | refine seqT_o rfl rfl rfl ?_ | (refine seqT_pd tok rfl rfl rfl rfl ?_ ?_ <;> intro e_) | refine seqT_p tok rfl rfl rfl rfl ?_)
      any_goals (exfalso; omega)
      refine seqT_ix tok (spC y) rfl rfl rfl rfl (by omega) (by omega) (by simp [spC]) (sp_at (by simpa using hy)) rfl rfl rfl ?_
      repeat (refine seqT_p tok rfl rfl rfl rfl ?_)
      refine seqT_call _ Try.func34 rfl rfl rfl rfl (sless_calls (a := y) (b := s) _) rfl rfl rfl ?_
      repeat (refine seqT_p tok rfl rfl rfl rfl ?_)
      refine SeqT.done ?_
      cases hlo : lessS y s with
      | true =>
        repeat' (first | refine aops_end ?_ | refine aops_endb ?_ | refine aops_a tok rfl (by omega) (by omega) rfl rfl rfl ?_ | refine aops_p tok rfl rfl rfl rfl ?_ | refine acode_it rfl ?_ | refine acode_region ?_ | refine acode_block ?_ | refine acode_skip ?_ | refine then_n ?_)
        exact ⟨k + 1, ⟨by omega, addF_drop hy hlo hk2⟩, by omega, ⟨rfl, rfl, rfl, trivial⟩, rfl⟩
      | false =>
        repeat' (first | refine aops_end ?_ | refine acode_if rfl ?_)
        refine acode_exit ?_
        repeat (first | refine exit_then ?_ | refine exit_here ?_ | refine then_n ?_)
        exact ⟨k, ⟨hk1, hk2, fun z hz => by rw [hy] at hz; cases hz; exact hlo⟩, ⟨rfl, rfl, rfl, trivial⟩, rfl⟩
    · repeat (refine acode_seq ?_)
      refine acode_drawT 12 mixed (by kernel_rfl) (by kernel_rfl) ?_
      repeat' (first | refine seqT_o rfl rfl rfl ?_ | (refine seqT_pd tok rfl rfl rfl rfl ?_ ?_ <;> intro e_) | refine seqT_p tok rfl rfl rfl rfl ?_)
      any_goals (exfalso; omega)
      refine SeqT.done ?_
      repeat' (first | refine aops_end ?_ | refine acode_if rfl ?_)
      refine acode_exit ?_
      repeat (first | refine exit_then ?_ | refine exit_here ?_ | refine then_n ?_)
      exact ⟨k, ⟨hk1, hk2, fun z hz => by rw [List.getElem?_eq_none (by omega)] at hz; cases hz⟩, ⟨rfl, rfl, rfl, trivial⟩, rfl⟩
  rintro k ⟨hk1, hk2, hk3⟩
  by_cases hkl : k < l.length
  · obtain ⟨y, hy⟩ : ∃ y, l[k]? = some y := ⟨l[k], List.getElem?_eq_getElem hkl⟩
    rw [drop_at hy, addF, hk3 y hy, if_neg (by simp)] at hk2
    by_cases hys : y = s
    · rw [if_pos hys, ← drop_at hy, List.take_append_drop] at hk2
      repeat (refine acode_seq ?_)
      refine acode_drawT 12 mixed (by kernel_rfl) (by kernel_rfl) ?_
      repeat' (first | refine seqT_o rfl rfl rfl ?_ | (refine seqT_pd tok rfl rfl rfl rfl ?_ ?_ <;> intro e_) | refine seqT_p tok rfl rfl rfl rfl ?_)
      any_goals (exfalso; omega)
      refine seqT_ix tok (spC y) rfl rfl rfl rfl (by omega) (by omega) (by simp [spC]) (sp_at (by simpa using hy)) rfl rfl rfl ?_
      repeat (refine seqT_p tok rfl rfl rfl rfl ?_)
      refine seqT_y (yields_eqst tok (spL y) (spL s) rfl rfl rfl (by kernel_rfl) rfl rfl rfl rfl rfl rfl) rfl ?_
      rw [spL_eq, decide_eq_true hys]
      repeat (refine seqT_p tok rfl rfl rfl rfl ?_)
      refine SeqT.done ?_
      repeat' (first | refine aops_end ?_ | refine aops_p tok rfl rfl rfl rfl ?_ | refine acode_it rfl ?_ | refine acode_seq ?_ | refine acode_region ?_)
      refine acode_ret ?_
      repeat (refine ret_then ?_)
      refine ⟨_, ⟨rfl, rfl⟩, resOf_tmp ?_⟩
      rw [hk2]; rfl
    · rw [if_neg hys, ← drop_at hy] at hk2
      repeat (refine acode_seq ?_)
      refine acode_drawT 12 mixed (by kernel_rfl) (by kernel_rfl) ?_
      repeat' (first | refine seqT_o rfl rfl rfl ?_ | (refine seqT_pd tok rfl rfl rfl rfl ?_ ?_ <;> intro e_) | refine seqT_p tok rfl rfl rfl rfl ?_)
      any_goals (exfalso; omega)
      refine seqT_ix tok (spC y) rfl rfl rfl rfl (by omega) (by omega) (by simp [spC]) (sp_at (by simpa using hy)) rfl rfl rfl ?_
      repeat (refine seqT_p tok rfl rfl rfl rfl ?_)
      refine seqT_y (yields_eqst tok (spL y) (spL s) rfl rfl rfl (by kernel_rfl) rfl rfl rfl rfl rfl rfl) rfl ?_
      rw [spL_eq, decide_eq_false hys]
      repeat (refine seqT_p tok rfl rfl rfl rfl ?_)
      refine SeqT.done ?_
      repeat' (first | refine aops_end ?_ | refine acode_if rfl ?_ | refine acode_seq ?_ | refine acode_skip ?_ | refine then_n ?_)
      refine acode_drawP [] 11 [0, 1, 2, 4, 5, 7, 8, 9, 3, 6, 10] [8, 9, 10] mixed (by kernel_rfl) (by kernel_rfl) rfl ?_
      repeat (refine seqO_p tok rfl rfl rfl rfl rfl ?_)
      refine seqO_slc tok (l.take k).length (encs spC (l.take k)) rfl rfl rfl rfl rfl rfl (by omega) (by omega) (by omega) (by rw [List.length_take, Nat.min_eq_left hk1]; omega) (encs_len spC_len l) (encs_cut spC_len l k) rfl rfl rfl ?_
      repeat (refine seqO_p tok rfl rfl rfl rfl rfl ?_)
      refine seqO_lit tok rfl rfl rfl rfl rfl rfl rfl rfl rfl ?_
      repeat (refine seqO_p tok rfl rfl rfl rfl rfl ?_)
      refine seqO_slc tok (l.drop k).length (encs spC (l.drop k)) rfl rfl rfl rfl rfl rfl (by omega) (by omega) (by omega) (by rw [List.length_drop]; omega) (encs_len spC_len l) (encs_rest spC_len l k (by omega)) rfl rfl rfl ?_
      refine seqO_appn tok rfl rfl rfl rfl rfl (encs_len spC_len _) (encs_cell (fun _ => rfl) _) rfl (by show _ * 16 ≤ _; rw [List.length_take]; omega) (by rw [List.length_take]; omega) (by simp) rfl rfl rfl fun ob' cap' => ?_
      refine seqO_app tok 0 (m := 1) (ds := spC s) rfl rfl rfl rfl (.inl rfl) rfl rfl (encs_len spC_len _) rfl rfl rfl (by show _ * 16 ≤ _; rw [List.length_take]; omega) (by rw [List.length_take]; omega) (by simp) rfl rfl rfl fun ob2 cap2 => ?_
      refine seqO_appz tok 0 (m := (l.drop k).length) (ds := encs spC (l.drop k)) rfl rfl rfl rfl rfl rfl rfl (by rw [List.length_append, encs_len spC_len]; show _ = _ * 2; rw [Nat.add_mul]; rfl) (encs_len spC_len _) (encs_cell (fun _ => rfl) _) rfl (by show _ * 16 ≤ _; rw [List.length_take, List.length_drop]; omega) (by rw [List.length_take, List.length_drop]; omega) (by simp) rfl rfl rfl ?_
      refine SeqO.done ?_
      repeat (first | refine aops_end ?_ | refine aops_p tok rfl rfl rfl rfl ?_)
      refine acode_ret ?_
      skip
      refine ⟨_, ⟨rfl, rfl⟩, resOf_tmp ?_⟩
      show A.psl _ _ = A.psl _ _
      rw [hk2, encs_app]
      congr 1
      · simp; omega
      · simp [encs]
  · have hkl : k = l.length := by omega
    subst hkl
    rw [List.drop_length, addF] at hk2
    repeat (refine acode_seq ?_)
    refine acode_drawT 12 mixed (by kernel_rfl) (by kernel_rfl) ?_
    repeat' (first | refine seqT_o rfl rfl rfl ?_ | (refine seqT_pd tok rfl rfl rfl rfl ?_ ?_ <;> intro e_) | refine seqT_p tok rfl rfl rfl rfl ?_)
    any_goals (exfalso; omega)
    refine SeqT.done ?_
    repeat' (first | refine aops_end ?_ | refine acode_if rfl ?_ | refine acode_seq ?_ | refine acode_skip ?_ | refine then_n ?_)
    refine acode_drawP [] 11 [0, 1, 2, 4, 5, 7, 8, 9, 3, 6, 10] [8, 9, 10] mixed (by kernel_rfl) (by kernel_rfl) rfl ?_
    repeat (refine seqO_p tok rfl rfl rfl rfl rfl ?_)
    refine seqO_slc tok (l.take l.length).length (encs spC (l.take l.length)) rfl rfl rfl rfl rfl rfl (by omega) (by omega) (by omega) (by rw [List.length_take, Nat.min_eq_left hk1]; omega) (encs_len spC_len l) (encs_cut spC_len l l.length) rfl rfl rfl ?_
    repeat (refine seqO_p tok rfl rfl rfl rfl rfl ?_)
    refine seqO_lit tok rfl rfl rfl rfl rfl rfl rfl rfl rfl ?_
    repeat (refine seqO_p tok rfl rfl rfl rfl rfl ?_)
    refine seqO_slc tok (l.drop l.length).length (encs spC (l.drop l.length)) rfl rfl rfl rfl rfl rfl (by omega) (by omega) (by omega) (by rw [List.length_drop]; omega) (encs_len spC_len l) (encs_rest spC_len l l.length (by omega)) rfl rfl rfl ?_
    refine seqO_appn tok rfl rfl rfl rfl rfl (encs_len spC_len _) (encs_cell (fun _ => rfl) _) rfl (by show _ * 16 ≤ _; rw [List.length_take]; omega) (by rw [List.length_take]; omega) (by simp) rfl rfl rfl fun ob' cap' => ?_
    refine seqO_app tok 0 (m := 1) (ds := spC s) rfl rfl rfl rfl (.inl rfl) rfl rfl (encs_len spC_len _) rfl rfl rfl (by show _ * 16 ≤ _; rw [List.length_take]; omega) (by rw [List.length_take]; omega) (by simp) rfl rfl rfl fun ob2 cap2 => ?_
    refine seqO_appz tok 0 (m := (l.drop l.length).length) (ds := encs spC (l.drop l.length)) rfl rfl rfl rfl rfl rfl rfl (by rw [List.length_append, encs_len spC_len]; show _ = _ * 2; rw [Nat.add_mul]; rfl) (encs_len spC_len _) (encs_cell (fun _ => rfl) _) rfl (by show _ * 16 ≤ _; rw [List.length_take, List.length_drop]; omega) (by rw [List.length_take, List.length_drop]; omega) (by simp) rfl rfl rfl ?_
    refine SeqO.done ?_
    repeat (first | refine aops_end ?_ | refine aops_p tok rfl rfl rfl rfl ?_)
    refine acode_ret ?_
    skip
    refine ⟨_, ⟨rfl, rfl⟩, resOf_tmp ?_⟩
    show A.psl _ _ = A.psl _ _
    rw [hk2, encs_app]
    congr 1
    · simp
    · simp [encs]
end Go.Proofs.Ytobpbelgihilpaa.Ab
/- Chapter 5: the reference's accepts: the walk; what is known of spots. No condition. -/
set_option linter.unusedVariables false
set_option linter.unusedSimpArgs false
namespace Go.Proofs.Ytobpbelgihilpaa.Ab
attribute [local irreducible] thenA inBlockA ACode AOps put IntKind.wrap

def lsC (l : List Int) : List A := [.psl l.length (ints l)]
theorem lsC_len (l : List Int) : (lsC l).length = 1 := rfl
def psC (p : Ps) : List A := [.psl p.sets.length (encs wordsA p.sets), .bool p.null, .psl p.first.length (ints p.first), .psl p.last.length (ints p.last), .psl p.follow.length (encs lsC p.follow)]
theorem psC_len (p : Ps) : (psC p).length = 5 := rfl
theorem ps_at {ps : List Ps} {r : Int} (h0 : 0 ≤ r) (h1 : r < ps.length) : ps[r.toNat]? = some (psAt ps r) := by
  unfold psAt
  rw [List.getD_eq_getElem?_getD, List.getElem?_eq_getElem (by omega)]; rfl
theorem psC_at {ps : List Ps} {r : Int} (h0 : 0 ≤ r) (h1 : r < ps.length) : psC (psAt ps r) <+: (encs psC ps).drop (r.toNat * 5) := encs_at (e := psC) (s := 5) (fun _ => rfl) (ps_at h0 h1)
/-- Spots of patterns' places. -/
def SpV (ps : List Ps) (z : Sp) : Prop := (0 ≤ z.1 ∧ z.1 < (ps.length : Int)) ∧ (z.2 = -1 ∨ 0 ≤ z.2 ∧ z.2 < ((psAt ps z.1).sets.length : Int))
def SpOk (ps : List Ps) (s : List Sp) : Prop := RiseS s ∧ ∀ z ∈ s, SpV ps z
def AllOk (ps : List Ps) : Prop := ps.length ≤ 40 ∧ ∀ r : Int, 0 ≤ r → r < ps.length → PsOk (psAt ps r)
theorem riseS_code : ∀ (s : List Sp), RiseS s → (∀ z ∈ s, -1 ≤ z.2 ∧ z.2 < 150) → Rise (s.map fun z => z.1 * 151 + z.2 + 1)
  | [], _, _ => trivial
  | x :: s, h, hr => by
    refine ⟨fun y hy => ?_, riseS_code s h.2 fun z hz => hr z (by simp [hz])⟩
    obtain ⟨z, hz, rfl⟩ := List.mem_map.1 hy
    have h1 := lessS_iff.1 (h.1 z hz)
    have h2 := hr x (by simp)
    have h3 := hr z (by simp [hz])
    show x.1 * 151 + x.2 + 1 < z.1 * 151 + z.2 + 1
    omega
theorem spOk_len {ps : List Ps} {s : List Sp} (hp : AllOk ps) (h : SpOk ps s) : s.length ≤ 6040 := by
  have hr : ∀ z ∈ s, -1 ≤ z.2 ∧ z.2 < 150 := fun z hz => by
    obtain ⟨⟨h1, h2⟩, h3⟩ := h.2 z hz
    have := (hp.2 z.1 h1 h2).n
    omega
  have h1 := rise_le (l := s.map fun z => z.1 * 151 + z.2 + 1) (n := 6040) (riseS_code s h.1 hr) (fun x hx => by
    obtain ⟨z, hz, rfl⟩ := List.mem_map.1 hx
    have := hr z hz
    obtain ⟨⟨h1, h2⟩, h3⟩ := h.2 z hz
    have := hp.1
    omega)
  simpa using h1
theorem acceptsF_step {ps : List Ps} {s : List Sp} {i : Nat} {x : Sp} (hx : s[i]? = some x) : acceptsF ps (s.drop i) = if accB ps x then x.1 else acceptsF ps (s.drop (i + 1)) := by rw [drop_at hx, acceptsF]
set_option maxHeartbeats 4000000 in
theorem saccepts_calls {ps : List Ps} {s : List Sp} (hp : AllOk ps) (hs : SpOk ps s) (M : List Ob) : ACalls Try.prog 29 [.psl ps.length (encs psC ps), .psl s.length (encs spC s)] M (fun r M' => r = .int .i64 (acceptsF ps s) ∧ M' = M) := by
  have hsl := spOk_len hp hs
  refine acalls_of_code 54 Try.func29 rfl rfl rfl ?_
  repeat (first | refine aops_end ?_ | refine aops_p tok rfl rfl rfl rfl ?_ | refine acode_seq ?_ | refine acode_region ?_ | refine acode_block ?_)
  refine acode_loopS (ι := Nat) (fun i => [(0, .psl ps.length (encs psC ps)), (1, .psl s.length (encs spC s)), (5, .int .i64 i)]) (fun _ => M) (fun i => s.length - i) (fun i => i ≤ s.length ∧ acceptsF ps (s.drop i) = acceptsF ps s) 0 ⟨Nat.zero_le _, rfl⟩ ⟨rfl, rfl, rfl, trivial⟩ rfl ?_
  rintro i ⟨hi, hgo⟩
  by_cases hil : i < s.length
  · obtain ⟨x, hx⟩ : ∃ x, s[i]? = some x := ⟨s[i], List.getElem?_eq_getElem hil⟩
    obtain ⟨⟨v1, v2⟩, v3⟩ := hs.2 x (List.mem_of_getElem? hx)
    have hpo := hp.2 x.1 v1 v2
    rw [acceptsF_step hx] at hgo
    have hpc : psC (psAt ps x.1) <+: (encs psC ps).drop (x.1.toNat * 5) := psC_at v1 v2
    have hll := rise_le hpo.last.2 hpo.last.1
    have hpn := hpo.n
    have hb : accB ps x = ((decide (x.2 < 0) && (psAt ps x.1).null) || (decide (0 ≤ x.2) && (psAt ps x.1).last.contains x.2)) := rfl
    rw [hb] at hgo
    generalize psAt ps x.1 = p at *
    have hin := fun M => sin_calls (l := p.last) (n := x.2) (by omega) M
    have hxs : spC x <+: (encs spC s).drop (i * 2) := sp_at (i := (i : Int)) (by simpa using hx)
    have hpe : psC p = [.psl p.sets.length (encs wordsA p.sets), .bool p.null, .psl p.first.length (ints p.first), .psl p.last.length (ints p.last), .psl p.follow.length (encs lsC p.follow)] := rfl
    rw [hpe] at hpc
    repeat' (first | refine aops_end ?_ | refine aops_pbt tok rfl (by first | omega | decide) rfl rfl rfl ?_ | refine aops_p tok rfl rfl rfl rfl ?_ | refine acode_it rfl ?_ | refine acode_seq ?_ | refine acode_region ?_ | refine acode_block ?_ | refine acode_skip ?_ | refine then_n ?_)
    all_goals try (exfalso; omega)
    refine aops_ix tok (spC x) rfl rfl rfl rfl (by omega) (by omega) (by simp [spC]) (by simpa using hxs) rfl rfl rfl ?_
    repeat (refine aops_p tok rfl rfl rfl rfl ?_)
    refine aops_ix tok [.psl p.sets.length (encs wordsA p.sets), .bool p.null, .psl p.first.length (ints p.first), .psl p.last.length (ints p.last), .psl p.follow.length (encs lsC p.follow)] rfl rfl rfl rfl v1 v2 (by simp) hpc rfl rfl rfl ?_
    repeat (refine aops_p tok rfl rfl rfl rfl ?_)
    refine aops_alloc tok rfl rfl rfl rfl rfl rfl fun ba => ?_
    repeat (refine aops_stn tok rfl rfl rfl rfl rfl rfl rfl rfl rfl ?_)
    refine aops_pubref0 6 rfl ?_
    repeat (first | refine aops_end ?_ | refine acode_seq ?_)
    by_cases h0 : x.2 < 0
    · rw [decide_eq_true h0, decide_eq_false (show ¬ 0 ≤ x.2 by omega), Bool.true_and, Bool.false_and, Bool.or_false] at hgo
      refine acode_drawT 28 mixed (by kernel_rfl) (by kernel_rfl) ?_
      repeat (refine seqT_p tok rfl rfl rfl rfl ?_)
      refine seqT_ix tok (spC x) rfl rfl rfl rfl (by omega) (by omega) (by simp [spC]) (by simpa using hxs) rfl rfl rfl ?_
      repeat' (first | refine seqT_o rfl rfl rfl ?_ | (refine seqT_pd tok rfl rfl rfl rfl ?_ ?_ <;> intro e_) | refine seqT_p tok rfl rfl rfl rfl ?_)
      all_goals try (exfalso; omega)
      cases hn : p.null with
      | true =>
        rw [hn, if_pos rfl] at hgo
        repeat' (first | refine seqT_o rfl rfl rfl ?_ | refine seqT_p tok rfl rfl rfl rfl ?_)
        refine SeqT.done ?_
        repeat' (first | refine aops_end ?_ | refine aops_p tok rfl rfl rfl rfl ?_ | refine acode_it rfl ?_ | refine acode_seq ?_ | refine acode_region ?_)
        refine aops_ix tok (spC x) rfl rfl rfl rfl (by omega) (by omega) (by simp [spC]) (by simpa using hxs) rfl rfl rfl ?_
        repeat (first | refine aops_end ?_ | refine aops_p tok rfl rfl rfl rfl ?_)
        refine acode_ret ?_
        repeat (first | refine ret_then ?_ | refine ret_block ?_)
        exact ⟨_, ⟨rfl, rfl⟩, resOf_tmp (by rw [← hgo]; rfl)⟩
      | false =>
        rw [hn, if_neg (by simp)] at hgo
        repeat (refine seqT_p tok rfl rfl rfl rfl ?_)
        refine seqT_ix tok (spC x) rfl rfl rfl rfl (by omega) (by omega) (by simp [spC]) (by simpa using hxs) rfl rfl rfl ?_
        repeat' (first | refine seqT_o rfl rfl rfl ?_ | (refine seqT_pd tok rfl rfl rfl rfl ?_ ?_ <;> intro e_) | refine seqT_p tok rfl rfl rfl rfl ?_)
        all_goals try (exfalso; omega)
        refine SeqT.done ?_
        repeat' (first | refine aops_end ?_ | refine aops_a tok rfl (by omega) (by omega) rfl rfl rfl ?_ | refine aops_p tok rfl rfl rfl rfl ?_ | refine acode_if rfl ?_ | refine acode_region ?_ | refine acode_skip ?_ | refine then_n ?_ | refine block_n ?_)
        exact ⟨i + 1, ⟨by omega, hgo⟩, by omega, ⟨rfl, rfl, rfl, trivial⟩, rfl⟩
    · rw [decide_eq_false h0, decide_eq_true (show 0 ≤ x.2 by omega), Bool.false_and, Bool.true_and, Bool.false_or] at hgo
      refine acode_drawT 28 mixed (by kernel_rfl) (by kernel_rfl) ?_
      repeat (refine seqT_p tok rfl rfl rfl rfl ?_)
      refine seqT_ix tok (spC x) rfl rfl rfl rfl (by omega) (by omega) (by simp [spC]) (by simpa using hxs) rfl rfl rfl ?_
      repeat' (first | refine seqT_o rfl rfl rfl ?_ | (refine seqT_pd tok rfl rfl rfl rfl ?_ ?_ <;> intro e_) | refine seqT_p tok rfl rfl rfl rfl ?_)
      all_goals try (exfalso; omega)
      refine seqT_ix tok (spC x) rfl rfl rfl rfl (by omega) (by omega) (by simp [spC]) (by simpa using hxs) rfl rfl rfl ?_
      repeat' (first | refine seqT_o rfl rfl rfl ?_ | (refine seqT_pd tok rfl rfl rfl rfl ?_ ?_ <;> intro e_) | refine seqT_p tok rfl rfl rfl rfl ?_)
      all_goals try (exfalso; omega)
      refine seqT_ix tok (spC x) rfl rfl rfl rfl (by omega) (by omega) (by simp [spC]) (by simpa using hxs) rfl rfl rfl ?_
      repeat (refine seqT_p tok rfl rfl rfl rfl ?_)
      refine seqT_call _ Try.func35 rfl rfl rfl rfl (hin _) rfl rfl rfl ?_
      cases hc : p.last.contains x.2 with
      | true =>
        rw [hc, if_pos rfl] at hgo
        repeat' (refine seqT_p tok rfl rfl rfl rfl ?_)
        refine SeqT.done ?_
        repeat' (first | refine aops_end ?_ | refine aops_p tok rfl rfl rfl rfl ?_ | refine acode_it rfl ?_ | refine acode_seq ?_ | refine acode_region ?_)
        refine aops_ix tok (spC x) rfl rfl rfl rfl (by omega) (by omega) (by simp [spC]) (by simpa using hxs) rfl rfl rfl ?_
        repeat (first | refine aops_end ?_ | refine aops_p tok rfl rfl rfl rfl ?_)
        refine acode_ret ?_
        repeat (first | refine ret_then ?_ | refine ret_block ?_)
        exact ⟨_, ⟨rfl, rfl⟩, resOf_tmp (by rw [← hgo]; rfl)⟩
      | false =>
        rw [hc, if_neg (by simp)] at hgo
        repeat' (refine seqT_p tok rfl rfl rfl rfl ?_)
        refine SeqT.done ?_
        repeat' (first | refine aops_end ?_ | refine aops_a tok rfl (by omega) (by omega) rfl rfl rfl ?_ | refine aops_p tok rfl rfl rfl rfl ?_ | refine acode_if rfl ?_ | refine acode_region ?_ | refine acode_skip ?_ | refine then_n ?_ | refine block_n ?_)
        exact ⟨i + 1, ⟨by omega, hgo⟩, by omega, ⟨rfl, rfl, rfl, trivial⟩, rfl⟩
  · obtain rfl : i = s.length := by omega
    rw [List.drop_length, acceptsF] at hgo
    rw [← hgo]
    repeat' (first | refine aops_end ?_ | refine aops_pbf tok rfl (by first | omega | decide) rfl rfl rfl ?_ | refine aops_p tok rfl rfl rfl rfl ?_ | refine acode_if rfl ?_ | refine acode_seq ?_ | refine acode_region ?_)
    all_goals try (exfalso; omega)
    refine acode_exit ?_
    repeat (first | refine exit_then ?_ | refine exit_here ?_ | refine then_n ?_)
    repeat (first | refine aops_end ?_ | refine aops_p tok rfl rfl rfl rfl ?_ | refine acode_seq ?_ | refine acode_region ?_)
    refine acode_ret ?_
    skip
    exact ⟨_, ⟨rfl, rfl⟩, resOf_tmp rfl⟩
end Go.Proofs.Ytobpbelgihilpaa.Ab
/- Chapter 4: the reference's link: the walk; an object's nil slices told as empty ones. No condition. -/
set_option linter.unusedVariables false
set_option linter.unusedSimpArgs false
namespace Go.Proofs.Ytobpbelgihilpaa.Ab
section
variable {P : Program} {T : List TI} {N : Nat} {ops : Array Oper} {rest : List Oper} {o : Oper} {Q : Exit → St → Prop} {E F : Env} {M : List Ob}
theorem ok_softM {K : Ctx} {G : Gh} {w : World} {b room : Nat} {cs : List A} (hok : Ok K G (⟨some b, room, cs⟩ :: M) w) : Ok K G (⟨some b, room, softL cs⟩ :: M) w := by
  refine hok.cast (fun o' ho => ?_) ?_
  · simp only [List.mem_cons] at ho
    rcases ho with rfl | ho
    · exact .inr ⟨⟨some b, room, cs⟩, List.mem_cons_self .., rfl, rfl, fun vs hv => softL_rep _ _ hv, fun h => by cases h⟩
    · exact .inr ⟨o', by simp [ho], rfl, rfl, fun vs hv => hv, fun hb => (hok.vn o' (by simp [ho]) hb).1⟩
  · simpa [List.filterMap_cons] using hok.nd
theorem aops_softM {l : List Oper} {b room : Nat} {cs cs' : List A} (h : softL cs = cs') (next : AOps P N ops l Q ⟨E, ⟨some b, room, cs'⟩ :: M⟩) : AOps P N ops l Q ⟨E, ⟨some b, room, cs⟩ :: M⟩ := by
  subst h
  exact aops_weaken (st' := ⟨E, ⟨some b, room, softL cs⟩ :: M⟩) (fun K G a w hi => ⟨G, ok_softM hi.ok, hi.sz, hi.df, hi.ev⟩) next
theorem acode_softM {c : Code} {b room : Nat} {cs cs' : List A} (h : softL cs = cs') (next : ACode P N c Q ⟨E, ⟨some b, room, cs'⟩ :: M⟩) : ACode P N c Q ⟨E, ⟨some b, room, cs⟩ :: M⟩ := by
  subst h
  exact acode_weaken (st' := ⟨E, ⟨some b, room, softL cs⟩ :: M⟩) (fun K G a w hi => ⟨G, ok_softM hi.ok, hi.sz, hi.df, hi.ev⟩) next
end
attribute [local irreducible] thenA inBlockA ACode AOps put IntKind.wrap
/-- The maker's objects. -/
abbrev mkM (mb : Nat) (sb : Option Nat) (sc : Nat) (S : List Nat) (fb : Option Nat) (fc : Nat) (F : List (List Int)) (M : List Ob) : List Ob :=
  ⟨some mb, 5, [.own sb S.length sc, .bool false, .nils, .nils, .own fb F.length fc]⟩ :: ⟨sb, sc * 4, encs wordsA S⟩ :: ⟨fb, fc * 1, encs lsC F⟩ :: M
def FolOk (N : Nat) (F : List (List Int)) : Prop := ∀ l ∈ F, InN N l ∧ Rise l
theorem lsC_eq (F : List (List Int)) : encs lsC F = F.map fun l => A.psl l.length (ints l) := by
  unfold encs
  induction F with
  | nil => rfl
  | cons x l ih => rw [List.map_cons, List.flatMap_cons, ih]; rfl
theorem lsC_get {F : List (List Int)} {j : Nat} {l : List Int} (h : F[j]? = some l) : (encs lsC F)[j * 1]? = some (.psl l.length (ints l)) := by rw [lsC_eq, Nat.mul_one, List.getElem?_map, h]; rfl
theorem lsC_set {F : List (List Int)} {j : Nat} (h : j < F.length) (l : List Int) : (encs lsC F).take (j * 1) ++ ([A.psl l.length (ints l)] ++ (encs lsC F).drop (j * 1 + 1)) = encs lsC (F.set j l) := by
  rw [lsC_eq, lsC_eq, Nat.mul_one, List.set_eq_take_append_cons_drop, if_pos h]; simp
theorem FolOk.set {N : Nat} {F : List (List Int)} {i : Nat} {l b : List Int} (h : FolOk N F) (hl : F[i]? = some l) (hb : InN N b ∧ Rise b) : FolOk N (F.set i (unionF l b)) := by
  intro x hx
  rcases List.mem_or_eq_of_mem_set hx with h1 | rfl
  · exact h x h1
  · have h2 := h l (List.mem_of_getElem? hl)
    refine ⟨fun q hq => ?_, unionF_rise _ _ h2.2 hb.2⟩
    rcases (unionF_mem _ _ q).1 hq with h3 | h3
    · exact h2.1 q h3
    · exact hb.1 q h3
set_option maxHeartbeats 4000000 in
theorem link_calls {mb : Nat} {sb : Option Nat} {sc : Nat} {S : List Nat} {fb : Option Nat} {fc : Nat} {F : List (List Int)} {a b : List Int} {N : Nat} (hN : N ≤ 150) (hF : FolOk N F) (hl : F.length = N) (ha : InN N a ∧ Rise a) (hb : InN N b ∧ Rise b) (M : List Ob) :
    ACalls Try.prog 25 [.ref mb 0, .psl a.length (ints a), .psl b.length (ints b)] (mkM mb sb sc S fb fc F M) (fun r M' => ∃ F', r = .tup [] ∧ M' = mkM mb sb sc S fb fc F' M ∧ F'.length = N ∧ FolOk N F') := by
  have hal := rise_le ha.2 ha.1
  have hbl := rise_le hb.2 hb.1
  refine acalls_of_code 36 Try.func25 rfl rfl rfl ?_
  repeat (first | refine aops_end ?_ | refine aops_p tok rfl rfl rfl rfl ?_ | refine acode_seq ?_ | refine acode_region ?_ | refine acode_block ?_)
  refine acode_loopS (ι := Nat × List (List Int)) (fun q => [(0, .ref mb 0), (1, .psl a.length (ints a)), (2, .psl b.length (ints b)), (6, .int .i64 q.1)]) (fun q => mkM mb sb sc S fb fc q.2 M) (fun q => a.length - q.1) (fun q => q.1 ≤ a.length ∧ q.2.length = N ∧ FolOk N q.2) (0, F) ⟨Nat.zero_le _, hl, hF⟩ ⟨rfl, rfl, rfl, rfl, trivial⟩ rfl ?_
  clear hF hl
  rintro ⟨i, F⟩ ⟨hi, hl, hF⟩
  simp only at hi hl hF ⊢
  by_cases hil : i < a.length
  · obtain ⟨q, hq⟩ : ∃ q, a[i]? = some q := ⟨_, List.getElem?_eq_getElem hil⟩
    obtain ⟨q0, q1⟩ := ha.1 q (List.mem_of_getElem? hq)
    obtain ⟨l, hlq⟩ : ∃ l, F[q.toNat]? = some l := ⟨_, List.getElem?_eq_getElem (by omega)⟩
    have hll := hF l (List.mem_of_getElem? hlq)
    have hlen := rise_le hll.2 hll.1
    have hun := fun M => sunion_calls (a := l) (b := b) (by omega) (by omega) M
    have hset := hF.set hlq hb
    refine acode_somedM 0 4 rfl rfl (by omega) fun f1 hf1 => ?_
    subst hf1
    repeat' (first | refine aops_end ?_ | refine aops_pbt tok rfl (by first | omega | decide) rfl rfl rfl ?_ | refine aops_p tok rfl rfl rfl rfl ?_ | refine acode_it rfl ?_ | refine acode_seq ?_ | refine acode_region ?_ | refine acode_block ?_ | refine acode_skip ?_ | refine then_n ?_)
    all_goals try (exfalso; omega)
    refine acode_drawT 22 mixed (by kernel_rfl) (by kernel_rfl) ?_
    repeat (first | refine seqT_p tok rfl rfl rfl rfl ?_ | refine seqT_ld tok 0 rfl rfl rfl rfl rfl rfl rfl rfl ?_)
    refine seqT_ix tok [.int .i64 q] rfl rfl rfl rfl (by omega) (by omega) (by simp) (ints_at (by simpa using hq)) rfl rfl rfl ?_
    repeat (first | refine seqT_p tok rfl rfl rfl rfl ?_ | refine seqT_ld tok 0 rfl rfl rfl rfl rfl rfl rfl rfl ?_)
    refine seqT_ix tok [.int .i64 q] rfl rfl rfl rfl (by omega) (by omega) (by simp) (ints_at (by simpa using hq)) rfl rfl rfl ?_
    repeat (refine seqT_p tok rfl rfl rfl rfl ?_)
    refine seqT_ixo tok rfl rfl rfl rfl (by omega) (by omega) rfl rfl rfl ?_
    refine seqT_ld tok 2 (y := .psl l.length (ints l)) rfl rfl rfl rfl (by rw [headed_eq]; exact lsC_get (j := q.toNat) hlq) rfl rfl rfl ?_
    repeat (refine seqT_p tok rfl rfl rfl rfl ?_)
    refine seqT_call _ Try.func22 rfl rfl rfl rfl (hun _) rfl rfl rfl ?_
    refine SeqT.done ?_
    skip
    refine aops_ixo tok rfl rfl rfl rfl (by omega) (by omega) rfl rfl rfl ?_
    refine aops_stk tok 2 (encs lsC (F.set q.toNat (unionF l b))) (mkM mb sb sc S (some f1) fc (F.set q.toNat (unionF l b)) M) rfl rfl rfl rfl rfl rfl (by show _ * 1 + 1 ≤ _; rw [encs_len lsC_len]; omega) (lsC_set (j := q.toNat) (by omega) _) (by simp only [mkM, List.length_set]; rfl) rfl rfl ?_
    repeat (first | refine aops_end ?_ | refine aops_endb ?_ | refine aops_a tok rfl (by omega) (by omega) rfl rfl rfl ?_ | refine aops_p tok rfl rfl rfl rfl ?_ | refine acode_region ?_ | refine then_n ?_)
    exact ⟨(i + 1, F.set q.toNat (unionF l b)), ⟨by simp only; omega, by simpa using hl, hset⟩, by simp only; omega, ⟨rfl, rfl, rfl, rfl, trivial⟩, rfl⟩
  · obtain rfl : i = a.length := by omega
    repeat' (first | refine aops_end ?_ | refine aops_pbf tok rfl (by first | omega | decide) rfl rfl rfl ?_ | refine aops_p tok rfl rfl rfl rfl ?_ | refine acode_if rfl ?_ | refine acode_seq ?_ | refine acode_region ?_)
    all_goals try (exfalso; omega)
    refine acode_exit ?_
    repeat (first | refine exit_then ?_ | refine exit_here ?_)
    exact ⟨_, ⟨F, rfl, rfl, hl, hF⟩, rfl⟩
end Go.Proofs.Ytobpbelgihilpaa.Ab
/- Chapter 4: the reference's walk of a pattern, of a set, of nothing: the walk. No condition. -/
set_option linter.unusedVariables false
set_option linter.unusedSimpArgs false
namespace Go.Proofs.Ytobpbelgihilpaa.Ab
attribute [local irreducible] thenA inBlockA ACode AOps put IntKind.wrap

structure Pt where
  null : Bool
  first : List Int
  last : List Int
abbrev ptC (p : Pt) : List A := [.bool p.null, .psl p.first.length (ints p.first), .psl p.last.length (ints p.last)]
def PtOk (N : Nat) (p : Pt) : Prop := (InN N p.first ∧ Rise p.first) ∧ InN N p.last ∧ Rise p.last
theorem InN.le {n m : Nat} {l : List Int} (h : InN n l) (hm : n ≤ m) : InN m l := fun q hq => by have := h q hq; omega
theorem PtOk.le {n m : Nat} {p : Pt} (h : PtOk n p) (hm : n ≤ m) : PtOk m p := ⟨⟨h.1.1.le hm, h.1.2⟩, h.2.1.le hm, h.2.2⟩
theorem FolOk.le {n m : Nat} {F : List (List Int)} (h : FolOk n F) (hm : n ≤ m) : FolOk m F := fun l hl => ⟨(h l hl).1.le hm, (h l hl).2⟩
theorem ptOk_none (N : Nat) (b : Bool) : PtOk N ⟨b, [], []⟩ := ⟨⟨by simp [InN], trivial⟩, by simp [InN], trivial⟩
def WalkR (mb : Nat) (S : List Nat) (n : Nat) (M : List Ob) (r : A) (M' : List Ob) : Prop := ∃ sb sc S' fb fc F' p, r = .agg (ptC p) ∧ M' = mkM mb sb sc S' fb fc F' M ∧ F'.length = S'.length ∧ S.length ≤ S'.length ∧ S'.length ≤ S.length + n ∧ FolOk S'.length F' ∧ PtOk S'.length p
def WalkC (x : RE) : Prop := ∀ (mb : Nat) (sb : Option Nat) (sc : Nat) (S : List Nat) (fb : Option Nat) (fc : Nat) (F : List (List Int)) (M : List Ob), F.length = S.length → FolOk S.length F → S.length + cntR x ≤ 150 →
  ACalls Try.prog 15 [.ref mb 0, .agg (reS x)] (mkM mb sb sc S fb fc F M) (WalkR mb S (cntR x) M)
theorem softL_app : ∀ a b : List A, softL (a ++ b) = softL a ++ softL b
  | [], b => by simp [softL]
  | x :: a, b => by rw [List.cons_append, softL, softL, softL_app a b]; rfl
theorem softL_lsC (F : List (List Int)) : softL (encs lsC F) = encs lsC F := by
  rw [lsC_eq]
  induction F with
  | nil => simp [softL]
  | cons x l ih => rw [List.map_cons, softL, ih]; simp [soft]
theorem softL_lsN (F : List (List Int)) : softL (encs lsC F ++ [.nils]) = encs lsC (F ++ [[]]) := by
  rw [softL_app, softL_lsC, encs_app]
  simp [softL, soft, encs, lsC, ints]
theorem perm_fourB (r a w n : Ob) (T : List Ob) : (r :: a :: w :: n :: T).Perm (n :: r :: a :: w :: T) := List.perm_middle (l₁ := [r, a, w])
set_option maxHeartbeats 8000000 in
/-- What takes a byte of a set. -/
theorem walk_set {x : RE} (ho : x.op = 1) : WalkC x := by
  intro mb sb sc S fb fc F M hFl hF hcn
  have hc1 : cntR x = 1 := by rw [cntR_eq, if_pos ho]
  rw [hc1] at hcn ⊢
  have hx : reS x = [.int .i64 1, .int .u64 (wordOf x.set 0 : Nat), .int .u64 (wordOf x.set 1 : Nat), .int .u64 (wordOf x.set 2 : Nat), .int .u64 (wordOf x.set 3 : Nat), .psl x.kids.length (encs reC x.kids)] := by unfold reS; rw [ho]
  rw [hx]
  refine acalls_of_code 178 Try.func15 rfl rfl rfl ?_
  repeat (first | refine acode_seq ?_ | refine acode_region ?_)
  refine aops_boxf rfl rfl rfl rfl rfl rfl rfl ?_
  refine aops_alloc tok rfl rfl rfl rfl rfl rfl fun b4 => ?_
  repeat' (first | refine aops_end ?_ | refine aops_pbt tok rfl (by first | omega | decide) rfl rfl rfl ?_ | refine aops_p tok rfl rfl rfl rfl ?_ | refine acode_it rfl ?_ | refine aops_ld tok 1 rfl rfl rfl rfl rfl rfl rfl rfl ?_ | refine acode_seq ?_ | refine acode_region ?_ | refine acode_block ?_)
  all_goals try (exfalso; omega)
  refine acode_drawP [⟨some mb, 5, [.own sb S.length sc, .bool false, .nils, .nils, .own fb F.length fc]⟩] 10 [0, 1, 2, 3, 4, 5, 6, 7, 8, 9] [9] mixed (by kernel_rfl) (by kernel_rfl) rfl ?_
  repeat (first | refine seqO_p tok rfl rfl rfl rfl rfl ?_ | refine seqO_ld tok 0 rfl rfl rfl rfl rfl (by simp) rfl rfl rfl rfl ?_)
  refine seqO_lit tok rfl rfl rfl rfl rfl rfl rfl rfl rfl ?_
  refine seqO_app tok 2 (m := 1) (ds := wordsA x.set) rfl rfl rfl rfl (.inl rfl) rfl rfl (encs_len (e := wordsA) (s := 4) (fun _ => rfl) S) rfl rfl rfl (by show _ * 32 ≤ _; omega) (by omega) (by intro y o ho; simp at ho ⊢; simp [ho]) rfl rfl rfl fun sb1 sc1 => ?_
  refine SeqO.done ?_
  repeat (first | refine aops_end ?_ | refine aops_p tok rfl rfl rfl rfl ?_ | refine aops_ld tok 1 rfl rfl rfl rfl rfl rfl rfl rfl ?_ | refine aops_stn1 tok rfl rfl rfl rfl rfl rfl rfl rfl rfl ?_ | refine acode_seq ?_ | refine acode_region ?_)
  refine aops_litn tok rfl rfl rfl rfl rfl rfl rfl ?_
  refine aops_append tok 3 (m := 1) (ds := [.nils]) rfl rfl rfl (.inl rfl) rfl rfl (encs_len lsC_len F) rfl rfl rfl (by show _ * 24 ≤ _; omega) (by omega) rfl rfl fun fb1 fc1 => ?_
  refine aops_put rfl ?_
  refine aops_somed 43 rfl (Nat.succ_pos _) fun f1 hf1 => ?_
  subst hf1
  refine aops_perm _ (perm_fourB _ _ _ _ _) ?_
  refine aops_softM (softL_lsN F) ?_
  refine aops_perm _ (perm_fourB _ _ _ _ _).symm ?_
  repeat (first | refine aops_end ?_ | refine aops_p tok rfl rfl rfl rfl ?_ | refine aops_stn1 tok rfl rfl rfl rfl rfl rfl rfl rfl rfl ?_ | refine acode_seq ?_ | refine acode_region ?_)
  refine aops_litn tok rfl rfl rfl rfl rfl rfl rfl ?_
  repeat (refine aops_p tok rfl rfl rfl rfl ?_)
  refine aops_litn tok rfl rfl rfl rfl rfl rfl rfl ?_
  repeat (first | refine aops_end ?_ | refine aops_p tok rfl rfl rfl rfl ?_ | refine aops_stn tok rfl rfl rfl rfl rfl rfl rfl rfl rfl ?_)
  refine acode_pubref0 4 rfl ?_
  refine acode_ret ?_
  repeat (first | refine ret_then ?_ | refine ret_block ?_)
  refine ⟨_, ⟨sb1, sc1, S ++ [x.set], some f1, fc1, F ++ [[]], ⟨false, [(S.length : Int)], [(S.length : Int)]⟩, rfl, ?_, by simp [hFl], by simp, by simp, ?_, ?_⟩, resOf_pp tok rfl rfl rfl⟩
  · simp only [mkM, List.length_append, encs_app]
    simp [encs]
  · intro l hl
    rcases List.mem_append.1 hl with hl | hl
    · exact ⟨(hF l hl).1.le (by simp), (hF l hl).2⟩
    · rw [List.mem_singleton.1 hl]; exact ⟨by simp [InN], trivial⟩
  · refine ⟨⟨fun q hq => ?_, by simp [Rise]⟩, fun q hq => ?_, by simp [Rise]⟩
    · rw [List.mem_singleton.1 hq]; simp; omega
    · rw [List.mem_singleton.1 hq]; simp; omega
set_option maxHeartbeats 8000000 in
/-- What takes nothing. -/
theorem walk_none {x : RE} (ho : x.op < 1 ∨ 6 < x.op ∨ (x.op ≠ 1 ∧ x.kids = [])) : WalkC x := by
  intro mb sb sc S fb fc F M hFl hF hcn
  have hR : WalkR mb S (cntR x) M (.agg [.bool true, .psl 0 [], .psl 0 []]) (mkM mb sb sc S fb fc F M) := ⟨sb, sc, S, fb, fc, F, ⟨true, [], []⟩, rfl, rfl, hFl, Nat.le_refl _, by omega, hF, ptOk_none _ _⟩
  have hkl : x.op < 1 ∨ 6 < x.op ∨ (x.op ≠ 1 ∧ x.kids.length = 0) := by
    rcases ho with h | h | ⟨h1, h2⟩
    · exact .inl h
    · exact .inr (.inl h)
    · exact .inr (.inr ⟨h1, by rw [h2]; rfl⟩)
  clear ho
  unfold reS
  generalize x.op = o at *
  generalize x.kids = ks at *
  refine acalls_of_code 178 Try.func15 rfl rfl rfl ?_
  repeat (first | refine acode_seq ?_ | refine acode_region ?_)
  refine aops_boxf rfl rfl rfl rfl rfl rfl rfl ?_
  refine aops_alloc tok rfl rfl rfl rfl rfl rfl fun b4 => ?_
  repeat' (first | refine aops_end ?_ | refine aops_pbt tok rfl (by first | omega | decide) rfl rfl rfl ?_ | refine aops_pbf tok rfl (by first | omega | decide) rfl rfl rfl ?_ | (refine aops_pd tok rfl rfl rfl rfl ?_ ?_ <;> intro e_) | refine aops_p tok rfl rfl rfl rfl ?_ | refine acode_it rfl ?_ | refine acode_if rfl ?_ | refine aops_stn tok rfl rfl rfl rfl rfl rfl rfl rfl rfl ?_ | refine acode_seq ?_ | refine acode_region ?_ | refine acode_block ?_ | refine acode_skip ?_ | refine then_n ?_ | refine block_n ?_)
  all_goals try (exfalso; omega)
  all_goals
    refine acode_softM rfl ?_
    refine acode_pubref0 4 rfl ?_
    refine acode_ret ?_
    repeat (first | refine ret_then ?_ | refine ret_block ?_)
    exact ⟨_, hR, resOf_pp tok rfl rfl rfl⟩
end Go.Proofs.Ytobpbelgihilpaa.Ab
/- Chapter 4: the reference's walk of a pattern, parts one behind the other: the walk. No condition. -/
set_option linter.unusedVariables false
set_option linter.unusedSimpArgs false
namespace Go.Proofs.Ytobpbelgihilpaa.Ab
attribute [local irreducible] thenA inBlockA ACode AOps put IntKind.wrap

structure MkQ where
  i : Nat
  sb : Option Nat
  sc : Nat
  S : List Nat
  fb : Option Nat
  fc : Nat
  F : List (List Int)
  p : Pt
theorem perm_23 (a b m s f : Ob) (M : List Ob) : (a :: b :: m :: s :: f :: M).Perm (m :: s :: f :: a :: b :: M) := List.perm_append_comm_assoc [a, b] [m, s, f] M
theorem cntL_le (k : List RE) (i : Nat) : cntL (k.take i) ≤ cntL k := by
  have := cntL_app (k.take i) (k.drop i)
  rw [List.take_append_drop] at this
  omega
theorem union_ok {N : Nat} {a b : List Int} (ha : InN N a ∧ Rise a) (hb : InN N b ∧ Rise b) : InN N (unionF a b) ∧ Rise (unionF a b) := ⟨fun q hq => by
  rcases (unionF_mem _ _ q).1 hq with h | h
  · exact ha.1 q h
  · exact hb.1 q h, unionF_rise _ _ ha.2 hb.2⟩
theorem in_len {N : Nat} {a : List Int} (h : InN N a ∧ Rise a) (hN : N ≤ 150) : a.length ≤ 150 := by have := rise_le h.2 h.1; omega
set_option maxHeartbeats 16000000 in
/-- Parts one behind the other. -/
theorem walk_cat {x : RE} (ho : x.op = 2) (h0 : x.kids ≠ []) (hkl : x.kids.length ≤ 1000) (hk : ∀ y ∈ x.kids, WalkC y) : WalkC x := by
  intro mb sb sc S fb fc F M hFl hF hcn
  have hc1 : cntR x = cntL x.kids := by rw [cntR_eq, if_neg (by omega), if_pos (.inl ho)]
  rw [hc1] at hcn ⊢
  have hx : reS x = [.int .i64 2, .int .u64 (wordOf x.set 0 : Nat), .int .u64 (wordOf x.set 1 : Nat), .int .u64 (wordOf x.set 2 : Nat), .int .u64 (wordOf x.set 3 : Nat), .psl x.kids.length (encs reC x.kids)] := by unfold reS; rw [ho]
  rw [hx]
  have hl0 : x.kids.length ≠ 0 := fun e => h0 (List.eq_nil_of_length_eq_zero e)
  refine acalls_of_code 178 Try.func15 rfl rfl rfl ?_
  repeat (first | refine acode_seq ?_ | refine acode_region ?_)
  refine aops_boxf rfl rfl rfl rfl rfl rfl rfl ?_
  refine aops_alloc tok rfl rfl rfl rfl rfl rfl fun b4 => ?_
  repeat' (first | refine aops_end ?_ | refine aops_pbt tok rfl (by first | omega | decide) rfl rfl rfl ?_ | refine aops_pbf tok rfl (by first | omega | decide) rfl rfl rfl ?_ | refine aops_p tok rfl rfl rfl rfl ?_ | refine acode_it rfl ?_ | refine acode_if rfl ?_ | refine acode_seq ?_ | refine acode_region ?_ | refine acode_block ?_ | refine acode_skip ?_ | refine then_n ?_ | refine block_n ?_)
  all_goals try (exfalso; omega)
  refine aops_alloc tok rfl rfl rfl rfl rfl rfl fun b6 => ?_
  repeat (refine aops_stn tok rfl rfl rfl rfl rfl rfl rfl rfl rfl ?_)
  refine aops_softM rfl ?_
  repeat (first | refine aops_end ?_ | refine aops_p tok rfl rfl rfl rfl ?_ | refine acode_seq ?_ | refine acode_region ?_ | refine acode_block ?_)
  refine acode_loopS (ι := MkQ) (fun q => [(0, .ref mb 0), (3, .pp [.int .i64 2, .int .u64 (wordOf x.set 0 : Nat), .int .u64 (wordOf x.set 1 : Nat), .int .u64 (wordOf x.set 2 : Nat), .int .u64 (wordOf x.set 3 : Nat), .psl x.kids.length (encs reC x.kids)]), (4, .ref b4 0), (6, .ref b6 0), (7, .int .i64 q.i)])
    (fun q => ⟨some b6, 3, ptC q.p⟩ :: ⟨some b4, 3, [.bool false, .nils, .nils]⟩ :: mkM mb q.sb q.sc q.S q.fb q.fc q.F M) (fun q => x.kids.length - q.i)
    (fun q => q.i ≤ x.kids.length ∧ q.F.length = q.S.length ∧ S.length ≤ q.S.length ∧ q.S.length ≤ S.length + cntL (x.kids.take q.i) ∧ FolOk q.S.length q.F ∧ PtOk q.S.length q.p) ⟨0, sb, sc, S, fb, fc, F, ⟨true, [], []⟩⟩ ⟨Nat.zero_le _, hFl, Nat.le_refl _, by simp, hF, ptOk_none _ _⟩ ⟨rfl, rfl, rfl, rfl, rfl, trivial⟩ rfl ?_
  clear hFl hF
  rintro ⟨i, sb, sc, S2, fb, fc, F, p⟩ ⟨hi, hFl, hS1, hS2, hF, hP⟩
  simp only at hi hFl hS1 hS2 hF hP ⊢
  have hle := cntL_le x.kids i
  by_cases hil : i < x.kids.length
  · obtain ⟨y, hy⟩ : ∃ y, x.kids[i]? = some y := ⟨_, List.getElem?_eq_getElem hil⟩
    have hct := cntL_take hy
    have hle2 := cntL_le x.kids (i + 1)
    have hw := fun M => acalls_arg (.cons (.refl _) (.cons (vw_re [] y) .nil)) (hk y (List.mem_of_getElem? hy) mb sb sc S2 fb fc F M hFl hF (by omega))
    repeat' (first | refine aops_end ?_ | refine aops_pbt tok rfl (by first | omega | decide) rfl rfl rfl ?_ | refine aops_p tok rfl rfl rfl rfl ?_ | refine acode_it rfl ?_ | refine acode_seq ?_ | refine acode_region ?_ | refine acode_block ?_ | refine acode_skip ?_ | refine then_n ?_)
    all_goals try (exfalso; omega)
    refine aops_ix tok (reC y) rfl rfl rfl rfl (by omega) (by omega) (reC_ne y) (kid_at (by simpa using hy)) rfl rfl rfl ?_
    refine aops_ldagg tok rfl rfl rfl rfl (reC_len y) rfl rfl rfl ?_
    refine aops_perm _ (perm_23 _ _ _ _ _ _) ?_
    refine aops_call Try.func15 rfl rfl rfl rfl (hw _) rfl rfl ?_
    rintro _ _ ⟨sb1, sc1, S3, fb1, fc1, F1, k, rfl, rfl, k1, k2, k3, k4, k5⟩
    have hP3 := hP.le k2
    obtain ⟨hPf, hPl⟩ := hP3
    obtain ⟨hkf, hkl2⟩ := k5
    have hN : S3.length ≤ 150 := by omega
    have hlk := fun M => link_calls (mb := mb) (sb := sb1) (sc := sc1) (S := S3) (fb := fb1) (fc := fc1) (F := F1) (a := p.last) (b := k.first) hN k4 k1 hPl hkf M
    have l1 := in_len hPf hN
    have l2 := in_len hPl hN
    have l3 := in_len hkf hN
    have l4 := in_len hkl2 hN
    have hu1 := fun M => sunion_calls (a := p.first) (b := k.first) (by omega) (by omega) M
    have hu2 := fun M => sunion_calls (a := p.last) (b := k.last) (by omega) (by omega) M
    have o1 := union_ok hPf hkf
    have o2 := union_ok hPl hkl2
    refine aops_put rfl ?_
    refine aops_alloc tok rfl rfl rfl rfl rfl rfl fun b8 => ?_
    repeat (refine aops_stn tok rfl rfl rfl rfl rfl rfl rfl rfl rfl ?_)
    refine aops_pubref0 8 rfl ?_
    repeat (first | refine aops_end ?_ | refine aops_p tok rfl rfl rfl rfl ?_ | refine acode_seq ?_ | refine acode_region ?_)
    refine aops_ld tok 3 (y := .psl p.last.length (ints p.last)) rfl rfl rfl rfl rfl rfl rfl rfl ?_
    repeat (refine aops_p tok rfl rfl rfl rfl ?_)
    refine aops_call Try.func25 rfl rfl rfl rfl (hlk _) rfl rfl ?_
    rintro _ _ ⟨F2, rfl, rfl, f1, f2⟩
    refine aops_perm _ (perm_23 _ _ _ _ _ _).symm ?_
    obtain ⟨pn, pf, pl⟩ := p
    obtain ⟨kn, kf, kl⟩ := k
    simp only at *
    cases pn <;> cases kn
    · repeat' (first | refine aops_put rfl ?_ | refine aops_end ?_ | refine aops_endb ?_ | refine aops_o rfl rfl rfl ?_ | refine aops_a tok rfl (by omega) (by omega) rfl rfl rfl ?_ | refine aops_p tok rfl rfl rfl rfl ?_ | refine acode_if rfl ?_ | refine aops_ld tok 0 rfl rfl rfl rfl rfl rfl rfl rfl ?_ | refine aops_stn tok rfl rfl rfl rfl rfl rfl rfl rfl rfl ?_ | refine acode_seq ?_ | refine acode_region ?_ | refine acode_skip ?_ | refine then_n ?_)
      exact ⟨⟨i + 1, sb1, sc1, S3, fb1, fc1, F2, ⟨false, pf, kl⟩⟩, ⟨by simp only; omega, f1, by simp only; omega, by simp only; omega, f2, hPf, hkl2⟩, by simp only; omega, ⟨rfl, rfl, rfl, rfl, rfl, trivial⟩, rfl⟩
    · repeat' (first | refine aops_put rfl ?_ | refine aops_end ?_ | refine aops_p tok rfl rfl rfl rfl ?_ | refine acode_it rfl ?_ | refine acode_if rfl ?_ | refine aops_ld tok 0 rfl rfl rfl rfl rfl rfl rfl rfl ?_ | refine acode_seq ?_ | refine acode_region ?_ | refine acode_skip ?_ | refine then_n ?_)
      refine aops_callx Try.func22 rfl rfl rfl rfl (hu2 _) rfl rfl rfl ?_
      repeat' (first | refine aops_end ?_ | refine aops_endb ?_ | refine aops_o rfl rfl rfl ?_ | refine aops_a tok rfl (by omega) (by omega) rfl rfl rfl ?_ | refine aops_p tok rfl rfl rfl rfl ?_ | refine aops_ld tok 0 rfl rfl rfl rfl rfl rfl rfl rfl ?_ | refine aops_stn tok rfl rfl rfl rfl rfl rfl rfl rfl rfl ?_ | refine acode_region ?_ | refine then_n ?_)
      exact ⟨⟨i + 1, sb1, sc1, S3, fb1, fc1, F2, ⟨false, pf, unionF pl kl⟩⟩, ⟨by simp only; omega, f1, by simp only; omega, by simp only; omega, f2, hPf, o2⟩, by simp only; omega, ⟨rfl, rfl, rfl, rfl, rfl, trivial⟩, rfl⟩
    · repeat' (first | refine aops_put rfl ?_ | refine aops_end ?_ | refine aops_p tok rfl rfl rfl rfl ?_ | refine acode_it rfl ?_ | refine aops_ld tok 0 rfl rfl rfl rfl rfl rfl rfl rfl ?_ | refine acode_seq ?_ | refine acode_region ?_)
      refine aops_callx Try.func22 rfl rfl rfl rfl (hu1 _) rfl rfl rfl ?_
      repeat' (first | refine aops_end ?_ | refine aops_endb ?_ | refine aops_a tok rfl (by omega) (by omega) rfl rfl rfl ?_ | refine aops_p tok rfl rfl rfl rfl ?_ | refine acode_if rfl ?_ | refine aops_ld tok 0 rfl rfl rfl rfl rfl rfl rfl rfl ?_ | refine aops_stn tok rfl rfl rfl rfl rfl rfl rfl rfl rfl ?_ | refine acode_seq ?_ | refine acode_region ?_ | refine then_n ?_)
      exact ⟨⟨i + 1, sb1, sc1, S3, fb1, fc1, F2, ⟨false, unionF pf kf, kl⟩⟩, ⟨by simp only; omega, f1, by simp only; omega, by simp only; omega, f2, o1, hkl2⟩, by simp only; omega, ⟨rfl, rfl, rfl, rfl, rfl, trivial⟩, rfl⟩
    · repeat' (first | refine aops_put rfl ?_ | refine aops_end ?_ | refine aops_p tok rfl rfl rfl rfl ?_ | refine acode_it rfl ?_ | refine aops_ld tok 0 rfl rfl rfl rfl rfl rfl rfl rfl ?_ | refine acode_seq ?_ | refine acode_region ?_)
      refine aops_callx Try.func22 rfl rfl rfl rfl (hu1 _) rfl rfl rfl ?_
      repeat' (first | refine aops_end ?_ | refine aops_p tok rfl rfl rfl rfl ?_ | refine acode_it rfl ?_ | refine aops_ld tok 0 rfl rfl rfl rfl rfl rfl rfl rfl ?_ | refine aops_stn tok rfl rfl rfl rfl rfl rfl rfl rfl rfl ?_ | refine acode_seq ?_ | refine acode_region ?_)
      refine aops_callx Try.func22 rfl rfl rfl rfl (hu2 _) rfl rfl rfl ?_
      repeat' (first | refine aops_end ?_ | refine aops_endb ?_ | refine aops_a tok rfl (by omega) (by omega) rfl rfl rfl ?_ | refine aops_p tok rfl rfl rfl rfl ?_ | refine aops_ld tok 0 rfl rfl rfl rfl rfl rfl rfl rfl ?_ | refine aops_stn tok rfl rfl rfl rfl rfl rfl rfl rfl rfl ?_ | refine acode_region ?_ | refine then_n ?_)
      exact ⟨⟨i + 1, sb1, sc1, S3, fb1, fc1, F2, ⟨true, unionF pf kf, unionF pl kl⟩⟩, ⟨by simp only; omega, f1, by simp only; omega, by simp only; omega, f2, o1, o2⟩, by simp only; omega, ⟨rfl, rfl, rfl, rfl, rfl, trivial⟩, rfl⟩
  · obtain rfl : i = x.kids.length := by omega
    rw [List.take_length] at hS2
    repeat' (first | refine aops_end ?_ | refine aops_pbf tok rfl (by first | omega | decide) rfl rfl rfl ?_ | refine aops_p tok rfl rfl rfl rfl ?_ | refine acode_if rfl ?_ | refine acode_seq ?_ | refine acode_region ?_)
    all_goals try (exfalso; omega)
    refine acode_exit ?_
    repeat (first | refine exit_then ?_ | refine exit_here ?_ | refine then_n ?_)
    repeat (first | refine aops_end ?_ | refine aops_ld tok 0 rfl rfl rfl rfl rfl rfl rfl rfl ?_ | refine aops_stn1 tok rfl rfl rfl rfl rfl rfl rfl rfl rfl ?_ | refine acode_seq ?_ | refine acode_region ?_)
    refine acode_drop0 ?_
    refine acode_pubref0 4 rfl ?_
    refine acode_ret ?_
    repeat (first | refine ret_then ?_ | refine ret_block ?_)
    exact ⟨_, ⟨sb, sc, S2, fb, fc, F, p, rfl, rfl, hFl, hS1, hS2, hF, hP⟩, resOf_pp tok rfl rfl rfl⟩
end Go.Proofs.Ytobpbelgihilpaa.Ab
/- Chapter 4: the reference's walk of a pattern, choices: the walk. No condition. -/
set_option linter.unusedVariables false
set_option linter.unusedSimpArgs false
namespace Go.Proofs.Ytobpbelgihilpaa.Ab
attribute [local irreducible] thenA inBlockA ACode AOps put IntKind.wrap

set_option maxHeartbeats 16000000 in
/-- One of some parts. -/
theorem walk_alt {x : RE} (ho : x.op = 3) (h0 : x.kids ≠ []) (hkl : x.kids.length ≤ 1000) (hk : ∀ y ∈ x.kids, WalkC y) : WalkC x := by
  intro mb sb sc S fb fc F M hFl hF hcn
  have hc1 : cntR x = cntL x.kids := by rw [cntR_eq, if_neg (by omega), if_pos (.inr ho)]
  rw [hc1] at hcn ⊢
  have hx : reS x = [.int .i64 3, .int .u64 (wordOf x.set 0 : Nat), .int .u64 (wordOf x.set 1 : Nat), .int .u64 (wordOf x.set 2 : Nat), .int .u64 (wordOf x.set 3 : Nat), .psl x.kids.length (encs reC x.kids)] := by unfold reS; rw [ho]
  rw [hx]
  have hl0 : x.kids.length ≠ 0 := fun e => h0 (List.eq_nil_of_length_eq_zero e)
  refine acalls_of_code 178 Try.func15 rfl rfl rfl ?_
  repeat (first | refine acode_seq ?_ | refine acode_region ?_)
  refine aops_boxf rfl rfl rfl rfl rfl rfl rfl ?_
  refine aops_alloc tok rfl rfl rfl rfl rfl rfl fun b4 => ?_
  repeat' (first | refine aops_end ?_ | refine aops_pbt tok rfl (by first | omega | decide) rfl rfl rfl ?_ | refine aops_pbf tok rfl (by first | omega | decide) rfl rfl rfl ?_ | refine aops_p tok rfl rfl rfl rfl ?_ | refine acode_it rfl ?_ | refine acode_if rfl ?_ | refine acode_seq ?_ | refine acode_region ?_ | refine acode_block ?_ | refine acode_skip ?_ | refine then_n ?_ | refine block_n ?_)
  all_goals try (exfalso; omega)
  refine aops_alloc tok rfl rfl rfl rfl rfl rfl fun b9 => ?_
  refine aops_softM rfl ?_
  repeat (first | refine aops_end ?_ | refine aops_p tok rfl rfl rfl rfl ?_ | refine acode_seq ?_ | refine acode_region ?_ | refine acode_block ?_)
  refine acode_loopS (ι := MkQ) (fun q => [(0, .ref mb 0), (3, .pp [.int .i64 3, .int .u64 (wordOf x.set 0 : Nat), .int .u64 (wordOf x.set 1 : Nat), .int .u64 (wordOf x.set 2 : Nat), .int .u64 (wordOf x.set 3 : Nat), .psl x.kids.length (encs reC x.kids)]), (4, .ref b4 0), (9, .ref b9 0), (10, .int .i64 q.i)])
    (fun q => ⟨some b9, 3, ptC q.p⟩ :: ⟨some b4, 3, [.bool false, .nils, .nils]⟩ :: mkM mb q.sb q.sc q.S q.fb q.fc q.F M) (fun q => x.kids.length - q.i)
    (fun q => q.i ≤ x.kids.length ∧ q.F.length = q.S.length ∧ S.length ≤ q.S.length ∧ q.S.length ≤ S.length + cntL (x.kids.take q.i) ∧ FolOk q.S.length q.F ∧ PtOk q.S.length q.p) ⟨0, sb, sc, S, fb, fc, F, ⟨false, [], []⟩⟩ ⟨Nat.zero_le _, hFl, Nat.le_refl _, by simp, hF, ptOk_none _ _⟩ ⟨rfl, rfl, rfl, rfl, rfl, trivial⟩ rfl ?_
  clear hFl hF
  rintro ⟨i, sb, sc, S2, fb, fc, F, p⟩ ⟨hi, hFl, hS1, hS2, hF, hP⟩
  simp only at hi hFl hS1 hS2 hF hP ⊢
  have hle := cntL_le x.kids i
  by_cases hil : i < x.kids.length
  · obtain ⟨y, hy⟩ : ∃ y, x.kids[i]? = some y := ⟨_, List.getElem?_eq_getElem hil⟩
    have hct := cntL_take hy
    have hle2 := cntL_le x.kids (i + 1)
    have hw := fun M => acalls_arg (.cons (.refl _) (.cons (vw_re [] y) .nil)) (hk y (List.mem_of_getElem? hy) mb sb sc S2 fb fc F M hFl hF (by omega))
    repeat' (first | refine aops_end ?_ | refine aops_pbt tok rfl (by first | omega | decide) rfl rfl rfl ?_ | refine aops_p tok rfl rfl rfl rfl ?_ | refine acode_it rfl ?_ | refine acode_seq ?_ | refine acode_region ?_ | refine acode_block ?_ | refine acode_skip ?_ | refine then_n ?_)
    all_goals try (exfalso; omega)
    refine aops_ix tok (reC y) rfl rfl rfl rfl (by omega) (by omega) (reC_ne y) (kid_at (by simpa using hy)) rfl rfl rfl ?_
    refine aops_ldagg tok rfl rfl rfl rfl (reC_len y) rfl rfl rfl ?_
    refine aops_perm _ (perm_23 _ _ _ _ _ _) ?_
    refine aops_call Try.func15 rfl rfl rfl rfl (hw _) rfl rfl ?_
    rintro _ _ ⟨sb1, sc1, S3, fb1, fc1, F1, k, rfl, rfl, k1, k2, k3, k4, k5⟩
    have hP3 := hP.le k2
    obtain ⟨hPf, hPl⟩ := hP3
    obtain ⟨hkf, hkl2⟩ := k5
    have hN : S3.length ≤ 150 := by omega
    have l1 := in_len hPf hN
    have l2 := in_len hPl hN
    have l3 := in_len hkf hN
    have l4 := in_len hkl2 hN
    have hu1 := fun M => sunion_calls (a := p.first) (b := k.first) (by omega) (by omega) M
    have hu2 := fun M => sunion_calls (a := p.last) (b := k.last) (by omega) (by omega) M
    have o1 := union_ok hPf hkf
    have o2 := union_ok hPl hkl2
    refine aops_put rfl ?_
    refine aops_alloc tok rfl rfl rfl rfl rfl rfl fun b11 => ?_
    repeat (refine aops_stn tok rfl rfl rfl rfl rfl rfl rfl rfl rfl ?_)
    refine aops_pubref0 11 rfl ?_
    refine aops_perm _ (perm_23 _ _ _ _ _ _).symm ?_
    obtain ⟨pn, pf, pl⟩ := p
    obtain ⟨kn, kf, kl⟩ := k
    simp only at *
    repeat' (first | refine aops_end ?_ | refine aops_p tok rfl rfl rfl rfl ?_ | refine aops_ld tok 0 rfl rfl rfl rfl rfl rfl rfl rfl ?_ | refine acode_seq ?_ | refine acode_region ?_)
    refine aops_callx Try.func22 rfl rfl rfl rfl (hu1 _) rfl rfl rfl ?_
    repeat' (first | refine aops_end ?_ | refine aops_p tok rfl rfl rfl rfl ?_ | refine aops_ld tok 0 rfl rfl rfl rfl rfl rfl rfl rfl ?_ | refine aops_stn tok rfl rfl rfl rfl rfl rfl rfl rfl rfl ?_ | refine acode_seq ?_ | refine acode_region ?_)
    refine aops_callx Try.func22 rfl rfl rfl rfl (hu2 _) rfl rfl rfl ?_
    cases pn <;> cases kn
    · repeat' (first | refine aops_end ?_ | refine aops_endb ?_ | refine aops_a tok rfl (by omega) (by omega) rfl rfl rfl ?_ | refine aops_p tok rfl rfl rfl rfl ?_ | refine aops_ld tok 0 rfl rfl rfl rfl rfl rfl rfl rfl ?_ | refine aops_stn tok rfl rfl rfl rfl rfl rfl rfl rfl rfl ?_ | refine acode_region ?_ | refine then_n ?_)
      exact ⟨⟨i + 1, sb1, sc1, S3, fb1, fc1, F1, ⟨false, unionF pf kf, unionF pl kl⟩⟩, ⟨by simp only; omega, k1, by simp only; omega, by simp only; omega, k4, o1, o2⟩, by simp only; omega, ⟨rfl, rfl, rfl, rfl, rfl, trivial⟩, rfl⟩
    · repeat' (first | refine aops_end ?_ | refine aops_endb ?_ | refine aops_a tok rfl (by omega) (by omega) rfl rfl rfl ?_ | refine aops_p tok rfl rfl rfl rfl ?_ | refine aops_ld tok 0 rfl rfl rfl rfl rfl rfl rfl rfl ?_ | refine aops_stn tok rfl rfl rfl rfl rfl rfl rfl rfl rfl ?_ | refine acode_region ?_ | refine then_n ?_)
      exact ⟨⟨i + 1, sb1, sc1, S3, fb1, fc1, F1, ⟨true, unionF pf kf, unionF pl kl⟩⟩, ⟨by simp only; omega, k1, by simp only; omega, by simp only; omega, k4, o1, o2⟩, by simp only; omega, ⟨rfl, rfl, rfl, rfl, rfl, trivial⟩, rfl⟩
    · repeat' (first | refine aops_end ?_ | refine aops_endb ?_ | refine aops_o rfl rfl rfl ?_ | refine aops_a tok rfl (by omega) (by omega) rfl rfl rfl ?_ | refine aops_p tok rfl rfl rfl rfl ?_ | refine aops_ld tok 0 rfl rfl rfl rfl rfl rfl rfl rfl ?_ | refine aops_stn tok rfl rfl rfl rfl rfl rfl rfl rfl rfl ?_ | refine acode_region ?_ | refine then_n ?_)
      exact ⟨⟨i + 1, sb1, sc1, S3, fb1, fc1, F1, ⟨true, unionF pf kf, unionF pl kl⟩⟩, ⟨by simp only; omega, k1, by simp only; omega, by simp only; omega, k4, o1, o2⟩, by simp only; omega, ⟨rfl, rfl, rfl, rfl, rfl, trivial⟩, rfl⟩
    · repeat' (first | refine aops_end ?_ | refine aops_endb ?_ | refine aops_o rfl rfl rfl ?_ | refine aops_a tok rfl (by omega) (by omega) rfl rfl rfl ?_ | refine aops_p tok rfl rfl rfl rfl ?_ | refine aops_ld tok 0 rfl rfl rfl rfl rfl rfl rfl rfl ?_ | refine aops_stn tok rfl rfl rfl rfl rfl rfl rfl rfl rfl ?_ | refine acode_region ?_ | refine then_n ?_)
      exact ⟨⟨i + 1, sb1, sc1, S3, fb1, fc1, F1, ⟨true, unionF pf kf, unionF pl kl⟩⟩, ⟨by simp only; omega, k1, by simp only; omega, by simp only; omega, k4, o1, o2⟩, by simp only; omega, ⟨rfl, rfl, rfl, rfl, rfl, trivial⟩, rfl⟩
  · obtain rfl : i = x.kids.length := by omega
    rw [List.take_length] at hS2
    repeat' (first | refine aops_end ?_ | refine aops_pbf tok rfl (by first | omega | decide) rfl rfl rfl ?_ | refine aops_p tok rfl rfl rfl rfl ?_ | refine acode_if rfl ?_ | refine acode_seq ?_ | refine acode_region ?_)
    all_goals try (exfalso; omega)
    refine acode_exit ?_
    repeat (first | refine exit_then ?_ | refine exit_here ?_ | refine then_n ?_)
    repeat (first | refine aops_end ?_ | refine aops_ld tok 0 rfl rfl rfl rfl rfl rfl rfl rfl ?_ | refine aops_stn1 tok rfl rfl rfl rfl rfl rfl rfl rfl rfl ?_ | refine acode_seq ?_ | refine acode_region ?_)
    refine acode_drop0 ?_
    refine acode_pubref0 4 rfl ?_
    refine acode_ret ?_
    repeat (first | refine ret_then ?_ | refine ret_block ?_)
    exact ⟨_, ⟨sb, sc, S2, fb, fc, F, p, rfl, rfl, hFl, hS1, hS2, hF, hP⟩, resOf_pp tok rfl rfl rfl⟩
end Go.Proofs.Ytobpbelgihilpaa.Ab
/- Chapter 4: the reference's walk of a pattern, repeated parts; Posits: the walk. No condition. -/
set_option linter.unusedVariables false
set_option linter.unusedSimpArgs false
namespace Go.Proofs.Ytobpbelgihilpaa.Ab
attribute [local irreducible] thenA inBlockA ACode AOps put IntKind.wrap

theorem perm_13 (a m s f : Ob) (M : List Ob) : (a :: m :: s :: f :: M).Perm (m :: s :: f :: a :: M) := (List.perm_middle (l₁ := [m, s, f])).symm
theorem perm_23b (b m s f a : Ob) (M : List Ob) : (b :: m :: s :: f :: a :: M).Perm (b :: a :: m :: s :: f :: M) := List.Perm.cons _ (List.perm_middle (l₁ := [m, s, f]))
set_option maxHeartbeats 16000000 in
/-- A part any times, once or more, at most once. -/
theorem walk_rep {x : RE} (ho : x.op = 4 ∨ x.op = 5 ∨ x.op = 6) (h0 : x.kids ≠ []) (hkl : x.kids.length ≤ 1000) (hk : ∀ y ∈ x.kids, WalkC y) : WalkC x := by
  intro mb sb sc S fb fc F M hFl hF hcn
  obtain ⟨y, hy⟩ : ∃ y, x.kids[0]? = some y := ⟨_, List.getElem?_eq_getElem (List.length_pos_iff.2 h0)⟩
  have hc1 : cntR x = cntR y := by
    rw [cntR_eq, if_neg (by omega), if_neg (by omega), if_pos ho]
    have hc := cntL_take (k := x.kids) (i := 0) hy
    rw [cntH_take (List.length_pos_iff.2 h0), hc]; simp [cntL]
  rw [hc1] at hcn ⊢
  have hl0 : x.kids.length ≠ 0 := fun e => h0 (List.eq_nil_of_length_eq_zero e)
  have hw := fun M => acalls_arg (.cons (.refl _) (.cons (vw_re [] y) .nil)) (hk y (List.mem_of_getElem? hy) mb sb sc S fb fc F M hFl hF (by omega))
  unfold reS
  generalize x.op = o at *
  generalize x.kids = ks at *
  refine acalls_of_code 178 Try.func15 rfl rfl rfl ?_
  repeat (first | refine acode_seq ?_ | refine acode_region ?_)
  refine aops_boxf rfl rfl rfl rfl rfl rfl rfl ?_
  refine aops_alloc tok rfl rfl rfl rfl rfl rfl fun b4 => ?_
  have hend : ∀ (sb1 : Option Nat) (sc1 : Nat) (S3 : List Nat) (fb1 : Option Nat) (fc1 : Nat) (F1 : List (List Int)) (p : Pt), F1.length = S3.length → S.length ≤ S3.length → S3.length ≤ S.length + cntR y → FolOk S3.length F1 → PtOk S3.length p → WalkR mb S (cntR y) M (.agg (ptC p)) (mkM mb sb1 sc1 S3 fb1 fc1 F1 M) := fun sb1 sc1 S3 fb1 fc1 F1 p h1 h2 h3 h4 h5 => ⟨sb1, sc1, S3, fb1, fc1, F1, p, rfl, rfl, h1, h2, h3, h4, h5⟩
  rcases ho with rfl | rfl | rfl
  · repeat' (first | refine aops_end ?_ | refine aops_pbt tok rfl (by first | omega | decide) rfl rfl rfl ?_ | refine aops_pbf tok rfl (by first | omega | decide) rfl rfl rfl ?_ | refine aops_p tok rfl rfl rfl rfl ?_ | refine acode_it rfl ?_ | refine acode_if rfl ?_ | refine acode_seq ?_ | refine acode_region ?_ | refine acode_block ?_ | refine acode_skip ?_ | refine then_n ?_ | refine block_n ?_)
    all_goals try (exfalso; omega)
    refine aops_ix tok (reC y) rfl rfl rfl rfl (by omega) (by omega) (reC_ne y) (kid_at (by simpa using hy)) rfl rfl rfl ?_
    refine aops_ldagg tok rfl rfl rfl rfl (reC_len y) rfl rfl rfl ?_
    refine aops_perm _ (perm_13 _ _ _ _ _) ?_
    refine aops_call Try.func15 rfl rfl rfl rfl (hw _) rfl rfl ?_
    rintro _ _ ⟨sb1, sc1, S3, fb1, fc1, F1, k, rfl, rfl, k1, k2, k3, k4, k5⟩
    have hN : S3.length ≤ 150 := by omega
    have hlk := fun M => link_calls (mb := mb) (sb := sb1) (sc := sc1) (S := S3) (fb := fb1) (fc := fc1) (F := F1) (a := k.last) (b := k.first) hN k4 k1 k5.2 k5.1 M
    refine aops_put rfl ?_
    refine aops_alloc tok rfl rfl rfl rfl rfl rfl fun b12 => ?_
    repeat' (first | refine aops_end ?_ | (refine aops_pn tok rfl rfl rfl rfl ?_ ?_ <;> intro e_) | refine aops_p tok rfl rfl rfl rfl ?_ | refine acode_it rfl ?_ | refine acode_if rfl ?_ | refine aops_ld tok 0 rfl rfl rfl rfl rfl rfl rfl rfl ?_ | refine aops_stn tok rfl rfl rfl rfl rfl rfl rfl rfl rfl ?_ | refine acode_seq ?_ | refine acode_region ?_ | refine acode_skip ?_ | refine then_n ?_)
    all_goals try (exfalso; omega)
    refine aops_perm _ (perm_13 _ _ _ _ _) ?_
    refine aops_call Try.func25 rfl rfl rfl rfl (hlk _) rfl rfl ?_
    rintro _ _ ⟨F2, rfl, rfl, f1, f2⟩
    refine aops_perm _ (perm_23 _ _ _ _ _ _).symm ?_
    repeat' (first | refine aops_put rfl ?_ | refine aops_end ?_ | (refine aops_pn tok rfl rfl rfl rfl ?_ ?_ <;> intro e_) | refine aops_p tok rfl rfl rfl rfl ?_ | refine acode_it rfl ?_ | refine acode_if rfl ?_ | refine aops_ld tok 0 rfl rfl rfl rfl rfl rfl rfl rfl ?_ | refine aops_stn tok rfl rfl rfl rfl rfl rfl rfl rfl rfl ?_ | refine aops_stn1 tok rfl rfl rfl rfl rfl rfl rfl rfl rfl ?_ | refine acode_seq ?_ | refine acode_region ?_ | refine acode_skip ?_ | refine then_n ?_)
    all_goals try (exfalso; omega)
    refine acode_drop0 ?_
    refine acode_pubref0 4 rfl ?_
    refine acode_ret ?_
    repeat (first | refine ret_then ?_ | refine ret_block ?_)
    exact ⟨_, hend sb1 sc1 S3 fb1 fc1 F2 ⟨true, k.first, k.last⟩ f1 k2 k3 f2 k5, resOf_pp tok rfl rfl rfl⟩
  · repeat' (first | refine aops_end ?_ | refine aops_pbt tok rfl (by first | omega | decide) rfl rfl rfl ?_ | refine aops_pbf tok rfl (by first | omega | decide) rfl rfl rfl ?_ | refine aops_p tok rfl rfl rfl rfl ?_ | refine acode_it rfl ?_ | refine acode_if rfl ?_ | refine acode_seq ?_ | refine acode_region ?_ | refine acode_block ?_ | refine acode_skip ?_ | refine then_n ?_ | refine block_n ?_)
    all_goals try (exfalso; omega)
    refine aops_ix tok (reC y) rfl rfl rfl rfl (by omega) (by omega) (reC_ne y) (kid_at (by simpa using hy)) rfl rfl rfl ?_
    refine aops_ldagg tok rfl rfl rfl rfl (reC_len y) rfl rfl rfl ?_
    refine aops_perm _ (perm_13 _ _ _ _ _) ?_
    refine aops_call Try.func15 rfl rfl rfl rfl (hw _) rfl rfl ?_
    rintro _ _ ⟨sb1, sc1, S3, fb1, fc1, F1, k, rfl, rfl, k1, k2, k3, k4, k5⟩
    have hN : S3.length ≤ 150 := by omega
    have hlk := fun M => link_calls (mb := mb) (sb := sb1) (sc := sc1) (S := S3) (fb := fb1) (fc := fc1) (F := F1) (a := k.last) (b := k.first) hN k4 k1 k5.2 k5.1 M
    refine aops_put rfl ?_
    refine aops_alloc tok rfl rfl rfl rfl rfl rfl fun b12 => ?_
    repeat' (first | refine aops_end ?_ | refine aops_pbt tok rfl (by first | omega | decide) rfl rfl rfl ?_ | (refine aops_pn tok rfl rfl rfl rfl ?_ ?_ <;> intro e_) | refine aops_p tok rfl rfl rfl rfl ?_ | refine acode_it rfl ?_ | refine acode_if rfl ?_ | refine aops_ld tok 0 rfl rfl rfl rfl rfl rfl rfl rfl ?_ | refine aops_stn tok rfl rfl rfl rfl rfl rfl rfl rfl rfl ?_ | refine acode_seq ?_ | refine acode_region ?_ | refine acode_skip ?_ | refine then_n ?_)
    all_goals try (exfalso; omega)
    refine aops_perm _ (perm_13 _ _ _ _ _) ?_
    refine aops_call Try.func25 rfl rfl rfl rfl (hlk _) rfl rfl ?_
    rintro _ _ ⟨F2, rfl, rfl, f1, f2⟩
    refine aops_perm _ (perm_23 _ _ _ _ _ _).symm ?_
    repeat' (first | refine aops_put rfl ?_ | refine aops_end ?_ | refine aops_pbf tok rfl (by first | omega | decide) rfl rfl rfl ?_ | refine aops_p tok rfl rfl rfl rfl ?_ | refine acode_if rfl ?_ | refine aops_ld tok 0 rfl rfl rfl rfl rfl rfl rfl rfl ?_ | refine aops_stn1 tok rfl rfl rfl rfl rfl rfl rfl rfl rfl ?_ | refine acode_seq ?_ | refine acode_region ?_ | refine acode_skip ?_ | refine then_n ?_)
    all_goals try (exfalso; omega)
    refine acode_drop0 ?_
    refine acode_pubref0 4 rfl ?_
    refine acode_ret ?_
    repeat (first | refine ret_then ?_ | refine ret_block ?_)
    exact ⟨_, hend sb1 sc1 S3 fb1 fc1 F2 k f1 k2 k3 f2 k5, resOf_pp tok rfl rfl rfl⟩
  · repeat' (first | refine aops_end ?_ | refine aops_pbt tok rfl (by first | omega | decide) rfl rfl rfl ?_ | refine aops_pbf tok rfl (by first | omega | decide) rfl rfl rfl ?_ | refine aops_p tok rfl rfl rfl rfl ?_ | refine acode_it rfl ?_ | refine acode_if rfl ?_ | refine acode_seq ?_ | refine acode_region ?_ | refine acode_block ?_ | refine acode_skip ?_ | refine then_n ?_ | refine block_n ?_)
    all_goals try (exfalso; omega)
    refine aops_ix tok (reC y) rfl rfl rfl rfl (by omega) (by omega) (reC_ne y) (kid_at (by simpa using hy)) rfl rfl rfl ?_
    refine aops_ldagg tok rfl rfl rfl rfl (reC_len y) rfl rfl rfl ?_
    refine aops_perm _ (perm_13 _ _ _ _ _) ?_
    refine aops_call Try.func15 rfl rfl rfl rfl (hw _) rfl rfl ?_
    rintro _ _ ⟨sb1, sc1, S3, fb1, fc1, F1, k, rfl, rfl, k1, k2, k3, k4, k5⟩
    refine aops_put rfl ?_
    refine aops_alloc tok rfl rfl rfl rfl rfl rfl fun b12 => ?_
    repeat (refine aops_stn tok rfl rfl rfl rfl rfl rfl rfl rfl rfl ?_)
    refine aops_perm _ (perm_23b _ _ _ _ _ _) ?_
    repeat' (first | refine aops_end ?_ | refine aops_pbt tok rfl (by first | omega | decide) rfl rfl rfl ?_ | (refine aops_pn tok rfl rfl rfl rfl ?_ ?_ <;> intro e_) | refine aops_p tok rfl rfl rfl rfl ?_ | refine acode_it rfl ?_ | refine acode_if rfl ?_ | refine aops_ld tok 0 rfl rfl rfl rfl rfl rfl rfl rfl ?_ | refine aops_stn tok rfl rfl rfl rfl rfl rfl rfl rfl rfl ?_ | refine aops_stn1 tok rfl rfl rfl rfl rfl rfl rfl rfl rfl ?_ | refine acode_seq ?_ | refine acode_region ?_ | refine acode_skip ?_ | refine then_n ?_)
    all_goals try (exfalso; omega)
    refine acode_drop0 ?_
    refine acode_pubref0 4 rfl ?_
    refine acode_ret ?_
    repeat (first | refine ret_then ?_ | refine ret_block ?_)
    exact ⟨_, hend sb1 sc1 S3 fb1 fc1 F1 ⟨true, k.first, k.last⟩ k1 k2 k3 k4 k5, resOf_pp tok rfl rfl rfl⟩
end Go.Proofs.Ytobpbelgihilpaa.Ab
/- Chapter 4: the reference's Posits: the walk. No condition. -/
set_option linter.unusedVariables false
set_option linter.unusedSimpArgs false
namespace Go.Proofs.Ytobpbelgihilpaa.Ab
attribute [local irreducible] thenA inBlockA ACode AOps put IntKind.wrap

theorem walk_all {x : RE} (h : REok x) : WalkC x := by
  induction h with
  | @mk o S k hl hk ih =>
    by_cases h0 : k = []
    · by_cases h1 : o = 1
      · exact walk_set h1
      · exact walk_none (.inr (.inr ⟨h1, h0⟩))
    · by_cases h1 : o = 1
      · exact walk_set h1
      · by_cases h2 : o = 2
        · exact walk_cat h2 h0 hl ih
        · by_cases h3 : o = 3
          · exact walk_alt h3 h0 hl ih
          · by_cases h4 : o = 4 ∨ o = 5 ∨ o = 6
            · exact walk_rep h4 h0 hl ih
            · refine walk_none ?_
              show o < 1 ∨ 6 < o ∨ _
              omega
theorem perm_mv (m s f t : Ob) (M : List Ob) : (m :: s :: f :: t :: M).Perm (t :: m :: s :: f :: M) := List.perm_middle (l₁ := [m, s, f])
set_option maxHeartbeats 8000000 in
theorem posits_calls {x : RE} (hok : REok x) (hh : REh 400000 x) (M : List Ob) : ACalls Try.prog 6 [.agg (reS x)] M (fun r M' => ((∃ f, f ≠ 0 ∧ r = .tup [.agg [.psl 0 [], .bool false, .psl 0 [], .psl 0 [], .psl 0 []], .int .i64 f]) ∨ ∃ p, PsOk p ∧ r = .tup [.agg (psC p), .int .i64 0]) ∧ M' = M) := by
  refine acalls_of_code 41 Try.func6 rfl rfl rfl ?_
  repeat (first | refine acode_seq ?_ | refine acode_region ?_)
  refine aops_boxf rfl rfl rfl rfl rfl rfl rfl ?_
  refine aops_alloc tok rfl rfl rfl rfl rfl rfl fun b2 => ?_
  repeat (first | refine aops_end ?_ | refine aops_p tok rfl rfl rfl rfl ?_ | refine acode_seq ?_ | refine acode_region ?_)
  refine aops_call Try.func13 rfl rfl rfl rfl (places_calls hh (Nat.le_refl _) hok _) rfl rfl ?_
  rintro _ _ ⟨⟨n, rfl, n1, n2⟩, rfl⟩
  by_cases hn : n ≤ 150
  rotate_left
  · repeat' (first | refine aops_put rfl ?_ | refine aops_end ?_ | refine aops_pbt tok rfl (by first | omega | decide) rfl rfl rfl ?_ | refine aops_p tok rfl rfl rfl rfl ?_ | refine acode_it rfl ?_ | refine aops_stn tok rfl rfl rfl rfl rfl rfl rfl rfl rfl ?_ | refine acode_seq ?_ | refine acode_region ?_)
    all_goals try (exfalso; omega)
    refine acode_softM rfl ?_
    refine acode_pubref0 2 rfl ?_
    refine acode_ret ?_
    repeat (refine ret_then ?_)
    exact ⟨_, ⟨.inl ⟨3, by decide, rfl⟩, rfl⟩, _, _, rfl, resOf_pp tok rfl rfl rfl, resOf_tmp rfl⟩
  have hcn := n2 hn
  repeat' (first | refine aops_put rfl ?_ | refine aops_end ?_ | refine aops_pbf tok rfl (by first | omega | decide) rfl rfl rfl ?_ | refine aops_p tok rfl rfl rfl rfl ?_ | refine acode_if rfl ?_ | refine acode_seq ?_ | refine acode_region ?_ | refine acode_skip ?_ | refine then_n ?_)
  all_goals try (exfalso; omega)
  refine aops_call Try.func14 rfl rfl rfl rfl (deep_calls hh (Nat.le_refl _) hok _) rfl rfl ?_
  rintro _ _ ⟨⟨d, rfl, d1⟩, rfl⟩
  by_cases hd : d ≤ 200
  rotate_left
  · repeat' (first | refine aops_put rfl ?_ | refine aops_end ?_ | refine aops_pbt tok rfl (by first | omega | decide) rfl rfl rfl ?_ | refine aops_p tok rfl rfl rfl rfl ?_ | refine acode_it rfl ?_ | refine aops_stn tok rfl rfl rfl rfl rfl rfl rfl rfl rfl ?_ | refine acode_seq ?_ | refine acode_region ?_)
    all_goals try (exfalso; omega)
    refine acode_softM rfl ?_
    refine acode_pubref0 2 rfl ?_
    refine acode_ret ?_
    repeat (refine ret_then ?_)
    exact ⟨_, ⟨.inl ⟨4, by decide, rfl⟩, rfl⟩, _, _, rfl, resOf_pp tok rfl rfl rfl, resOf_tmp rfl⟩
  repeat' (first | refine aops_put rfl ?_ | refine aops_end ?_ | refine aops_pbf tok rfl (by first | omega | decide) rfl rfl rfl ?_ | refine aops_p tok rfl rfl rfl rfl ?_ | refine acode_if rfl ?_ | refine acode_seq ?_ | refine acode_region ?_ | refine acode_skip ?_ | refine then_n ?_)
  all_goals try (exfalso; omega)
  refine aops_boxo rfl rfl rfl rfl rfl rfl rfl fun mb => ?_
  refine aops_adoptF 4 rfl rfl ?_
  refine aops_adoptF 0 rfl rfl ?_
  repeat (first | refine aops_end ?_ | refine aops_p tok rfl rfl rfl rfl ?_ | refine acode_seq ?_ | refine acode_region ?_)
  refine aops_call Try.func15 rfl rfl rfl rfl (walk_all hok mb none 0 [] none 0 [] _ rfl (fun l hl => by cases hl) (by simp only [List.length_nil]; omega)) rfl rfl ?_
  rintro _ _ ⟨sb, sc, S, fb, fc, F, p, rfl, rfl, h1, h2, h3, h4, h5⟩
  simp only [List.length_nil] at h3
  refine aops_put rfl ?_
  refine aops_alloc tok rfl rfl rfl rfl rfl rfl fun b5 => ?_
  repeat (refine aops_stn tok rfl rfl rfl rfl rfl rfl rfl rfl rfl ?_)
  refine aops_pubref0 5 rfl ?_
  repeat (first | refine aops_end ?_ | refine aops_p tok rfl rfl rfl rfl ?_ | refine aops_ld tok 0 rfl rfl rfl rfl rfl rfl rfl rfl ?_ | refine aops_stn tok rfl rfl rfl rfl rfl rfl rfl rfl rfl ?_ | refine acode_seq ?_ | refine acode_region ?_)
  refine aops_perm _ (perm_mv _ _ _ _ _) ?_
  repeat (first | refine aops_end ?_ | refine aops_p tok rfl rfl rfl rfl ?_ | refine aops_stn tok rfl rfl rfl rfl rfl rfl rfl rfl rfl ?_)
  refine acode_drop 1 ?_
  refine acode_pubFld (sz := 4) (cs' := [.psl S.length (encs wordsA S), .bool p.null, .psl p.first.length (ints p.first), .psl p.last.length (ints p.last), .own fb F.length fc]) 0 rfl rfl (encs_len (e := wordsA) (s := 4) (fun _ => rfl) S) (by decide) rfl ?_
  refine acode_pubFld (sz := 1) (cs' := [.psl S.length (encs wordsA S), .bool p.null, .psl p.first.length (ints p.first), .psl p.last.length (ints p.last), .psl F.length (encs lsC F)]) 4 rfl rfl (encs_len lsC_len F) (by decide) rfl ?_
  refine acode_pubref0 2 rfl ?_
  refine acode_ret ?_
  skip
  exact ⟨_, ⟨.inr ⟨⟨S, p.null, p.first, p.last, F⟩, ⟨by simp only; omega, h1, h5.1, h5.2, h4⟩, rfl⟩, rfl⟩, _, _, rfl, resOf_pp tok rfl rfl rfl, resOf_tmp rfl⟩
end Go.Proofs.Ytobpbelgihilpaa.Ab
/- Chapter 5: the reference's step: the walk. No condition. -/
set_option linter.unusedVariables false
set_option linter.unusedSimpArgs false
namespace Go.Proofs.Ytobpbelgihilpaa.Ab
attribute [local irreducible] thenA inBlockA ACode AOps put IntKind.wrap

theorem addF_ok {ps : List Ps} {l : List Sp} {s : Sp} (h : SpOk ps l) (hs : SpV ps s) : SpOk ps (addF l s) := ⟨addF_rise l s h.1, fun z hz => by
  rcases (addF_mem l s z).1 hz with h1 | rfl
  · exact h.2 z h1
  · exact hs⟩
theorem nextOf_ok {ps : List Ps} {x : Sp} (hp : AllOk ps) (hx : SpV ps x) : InN (psAt ps x.1).sets.length (nextOf ps x) ∧ Rise (nextOf ps x) := by
  obtain ⟨⟨h1, h2⟩, h3⟩ := hx
  have hpo := hp.2 x.1 h1 h2
  unfold nextOf
  split
  · rename_i h0
    have h4 : x.2.toNat < (psAt ps x.1).follow.length := by rw [hpo.len]; omega
    rw [List.getD_eq_getElem?_getD, List.getElem?_eq_getElem h4]
    exact hpo.follow _ (List.getElem_mem _)
  · exact hpo.first
theorem kidS_ok {ps : List Ps} {r : Int} {c : Nat} (hr : 0 ≤ r ∧ r < (ps.length : Int)) {out : List Sp} {k : Int} (h : SpOk ps out) (hk : 0 ≤ k ∧ k < ((psAt ps r).sets.length : Int)) : SpOk ps (kidS ps r c out k) := by
  unfold kidS
  split
  · exact addF_ok h ⟨hr, .inr hk⟩
  · exact h
theorem kidL_ok {ps : List Ps} {r : Int} {c : Nat} (hr : 0 ≤ r ∧ r < (ps.length : Int)) : ∀ (l : List Int) {out : List Sp}, SpOk ps out → InN (psAt ps r).sets.length l → SpOk ps (l.foldl (kidS ps r c) out)
  | [], _, h, _ => h
  | k :: l, out, h, hl => by
    rw [List.foldl_cons]
    exact kidL_ok hr l (kidS_ok hr h (hl k (by simp))) fun q hq => hl q (by simp [hq])
theorem stepL_ok {ps : List Ps} {c : Nat} (hp : AllOk ps) : ∀ (s : List Sp) {out : List Sp}, SpOk ps out → (∀ z ∈ s, SpV ps z) → SpOk ps (s.foldl (spotS ps c) out)
  | [], _, h, _ => h
  | x :: s, out, h, hs => by
    rw [List.foldl_cons]
    have hx := hs x (by simp)
    exact stepL_ok hp s (kidL_ok hx.1 _ h (nextOf_ok hp hx).1) fun z hz => hs z (by simp [hz])
theorem stepS_ok {ps : List Ps} {s : List Sp} {c : Nat} (hp : AllOk ps) (hs : SpOk ps s) : SpOk ps (stepS ps s c) := stepL_ok hp s ⟨trivial, by simp⟩ hs.2
set_option maxHeartbeats 8000000 in
theorem sstep_calls {ps : List Ps} {s : List Sp} {c : Nat} (hp : AllOk ps) (hs : SpOk ps s) (hc : c < 256) (M : List Ob) : ACalls Try.prog 27 [.psl ps.length (encs psC ps), .psl s.length (encs spC s), .int .u8 c] M (fun r M' => r = .psl (stepS ps s c).length (encs spC (stepS ps s c)) ∧ M' = M) := by
  have hsl := spOk_len hp hs
  have hpl := hp.1
  refine acalls_of_code 72 Try.func27 rfl rfl rfl ?_
  repeat (first | refine aops_end ?_ | refine aops_p tok rfl rfl rfl rfl ?_ | refine acode_seq ?_ | refine acode_region ?_ | refine acode_block ?_)
  refine acode_freezeV (V := []) [(0, .psl ps.length (encs psC ps)), (1, .psl s.length (encs spC s)), (2, .int .u8 c), (7, .psl 0 []), (8, .int .i64 0)] ⟨.refl _, .refl _, .refl _, .nils, .refl _, trivial⟩ ?_
  refine acode_loopS (ι := Nat × List Sp) (fun q => [(0, .psl ps.length (encs psC ps)), (1, .psl s.length (encs spC s)), (2, .int .u8 c), (7, .psl q.2.length (encs spC q.2)), (8, .int .i64 q.1)]) (fun _ => M) (fun q => s.length - q.1) (fun q => q.1 ≤ s.length ∧ SpOk ps q.2 ∧ (s.drop q.1).foldl (spotS ps c) q.2 = stepS ps s c) (0, []) ⟨Nat.zero_le _, ⟨trivial, by simp⟩, rfl⟩ ⟨rfl, rfl, rfl, rfl, rfl, trivial⟩ rfl ?_
  rintro ⟨i, out⟩ ⟨hi, hok, hgo⟩
  simp only at hi hok hgo ⊢
  by_cases hil : i < s.length
  · obtain ⟨x, hx⟩ : ∃ x, s[i]? = some x := ⟨s[i], List.getElem?_eq_getElem hil⟩
    have hxv := hs.2 x (List.mem_of_getElem? hx)
    obtain ⟨⟨v1, v2⟩, v3⟩ := id hxv
    have hpo := hp.2 x.1 v1 v2
    rw [drop_at hx, List.foldl_cons] at hgo
    have hpc : psC (psAt ps x.1) <+: (encs psC ps).drop (x.1.toNat * 5) := psC_at v1 v2
    have hpn := hpo.n
    obtain ⟨hn1, hn2⟩ := nextOf_ok hp hxv
    have hnl := rise_le hn2 hn1
    have hne : nextOf ps x = if 0 ≤ x.2 then (psAt ps x.1).follow.getD x.2.toNat [] else (psAt ps x.1).first := rfl
    have hsp : spotS ps c out x = (nextOf ps x).foldl (kidS ps x.1 c) out := rfl
    rw [hsp] at hgo
    have hks : ∀ out k, kidS ps x.1 c out k = if ((psAt ps x.1).sets.getD k.toNat 0).testBit c then addF out (x.1, k) else out := fun _ _ => rfl
    have hko : ∀ out k, SpOk ps out → (0 ≤ k ∧ k < ((psAt ps x.1).sets.length : Int)) → SpOk ps (kidS ps x.1 c out k) := fun out k h h2 => kidS_ok ⟨v1, v2⟩ h h2
    have hkl : ∀ l out, SpOk ps out → InN (psAt ps x.1).sets.length l → SpOk ps (l.foldl (kidS ps x.1 c) out) := fun l out h h2 => kidL_ok ⟨v1, v2⟩ l h h2
    have hflen := hpo.len
    generalize kidS ps x.1 c = KS at *
    generalize nextOf ps x = nx at *
    generalize psAt ps x.1 = p at *
    have hxs : spC x <+: (encs spC s).drop (i * 2) := sp_at (i := (i : Int)) (by simpa using hx)
    have hpe : psC p = [.psl p.sets.length (encs wordsA p.sets), .bool p.null, .psl p.first.length (ints p.first), .psl p.last.length (ints p.last), .psl p.follow.length (encs lsC p.follow)] := rfl
    rw [hpe] at hpc
    repeat' (first | refine aops_end ?_ | refine aops_pbt tok rfl (by first | omega | decide) rfl rfl rfl ?_ | refine aops_p tok rfl rfl rfl rfl ?_ | refine acode_it rfl ?_ | refine acode_seq ?_ | refine acode_region ?_ | refine acode_block ?_ | refine acode_skip ?_ | refine then_n ?_)
    all_goals try (exfalso; omega)
    refine aops_ix tok (spC x) rfl rfl rfl rfl (by omega) (by omega) (by simp [spC]) (by simpa using hxs) rfl rfl rfl ?_
    repeat (refine aops_p tok rfl rfl rfl rfl ?_)
    refine aops_ix tok [.psl p.sets.length (encs wordsA p.sets), .bool p.null, .psl p.first.length (ints p.first), .psl p.last.length (ints p.last), .psl p.follow.length (encs lsC p.follow)] rfl rfl rfl rfl v1 v2 (by simp) hpc rfl rfl rfl ?_
    repeat (refine aops_p tok rfl rfl rfl rfl ?_)
    refine aops_alloc tok rfl rfl rfl rfl rfl rfl fun ba => ?_
    repeat (refine aops_stn tok rfl rfl rfl rfl rfl rfl rfl rfl rfl ?_)
    refine aops_pubref0 9 rfl ?_
    refine aops_end ?_
    refine acode_seq ?_
    refine acode_region ?_
    repeat (refine aops_p tok rfl rfl rfl rfl ?_)
    refine aops_end ?_
    refine acode_seq ?_
    refine acode_joinI (ι := Unit) (fun _ => [(0, .psl ps.length (encs psC ps)), (1, .psl s.length (encs spC s)), (2, .int .u8 c), (7, .psl out.length (encs spC out)), (8, .int .i64 i), (9, .pp [.psl p.sets.length (encs wordsA p.sets), .bool p.null, .psl p.first.length (ints p.first), .psl p.last.length (ints p.last), .psl p.follow.length (encs lsC p.follow)]), (10, .psl nx.length (ints nx))]) (fun _ => M) (fun _ => True) ?_ ?_
    · by_cases h0 : 0 ≤ x.2
      · rw [if_pos h0] at hne
        have hfl : p.follow[x.2.toNat]? = some nx := by
          rw [hne, List.getD_eq_getElem?_getD, List.getElem?_eq_getElem (by omega)]; rfl
        repeat' (first | refine aops_p tok rfl rfl rfl rfl ?_ | refine acode_seq ?_ | refine acode_region ?_)
        all_goals try (exfalso; omega)
        refine aops_ix tok (spC x) rfl rfl rfl rfl (by omega) (by omega) (by simp [spC]) (by simpa using hxs) rfl rfl rfl ?_
        repeat' (first | refine aops_end ?_ | refine aops_pbt tok rfl (by first | omega | decide) rfl rfl rfl ?_ | refine aops_p tok rfl rfl rfl rfl ?_ | refine acode_it rfl ?_)
        all_goals try (exfalso; omega)
        refine acode_drawT 9 mixed (by kernel_rfl) (by kernel_rfl) ?_
        repeat (refine seqT_p tok rfl rfl rfl rfl ?_)
        refine seqT_ix tok (spC x) rfl rfl rfl rfl (by omega) (by omega) (by simp [spC]) (by simpa using hxs) rfl rfl rfl ?_
        repeat (refine seqT_p tok rfl rfl rfl rfl ?_)
        refine seqT_ix tok [.psl nx.length (ints nx)] rfl rfl rfl rfl h0 (by omega) (by simp) (encs_at (e := lsC) (s := 1) (fun _ => rfl) hfl) rfl rfl rfl ?_
        repeat (refine seqT_p tok rfl rfl rfl rfl ?_)
        refine SeqT.done ?_
        repeat (first | refine aops_end ?_ | refine aops_p tok rfl rfl rfl rfl ?_)
        exact ⟨(), trivial, ⟨rfl, rfl, rfl, rfl, rfl, rfl, rfl, trivial⟩, rfl⟩
      · rw [if_neg h0] at hne
        subst hne
        repeat' (first | refine aops_p tok rfl rfl rfl rfl ?_ | refine acode_seq ?_ | refine acode_region ?_)
        all_goals try (exfalso; omega)
        refine aops_ix tok (spC x) rfl rfl rfl rfl (by omega) (by omega) (by simp [spC]) (by simpa using hxs) rfl rfl rfl ?_
        repeat' (first | refine aops_end ?_ | refine aops_pbf tok rfl (by first | omega | decide) rfl rfl rfl ?_ | refine aops_p tok rfl rfl rfl rfl ?_ | refine acode_if rfl ?_ | refine acode_skip ?_ | refine then_n ?_)
        all_goals try (exfalso; omega)
        exact ⟨(), trivial, ⟨rfl, rfl, rfl, rfl, rfl, rfl, rfl, trivial⟩, rfl⟩
    rintro - -
    repeat (first | refine aops_end ?_ | refine aops_p tok rfl rfl rfl rfl ?_ | refine acode_seq ?_ | refine acode_region ?_ | refine acode_block ?_)
    refine acode_loopS (ι := Nat × List Sp) (fun q => [(0, .psl ps.length (encs psC ps)), (1, .psl s.length (encs spC s)), (2, .int .u8 c), (7, .psl q.2.length (encs spC q.2)), (8, .int .i64 i), (9, .pp [.psl p.sets.length (encs wordsA p.sets), .bool p.null, .psl p.first.length (ints p.first), .psl p.last.length (ints p.last), .psl p.follow.length (encs lsC p.follow)]), (10, .psl nx.length (ints nx)), (11, .int .i64 q.1)]) (fun _ => M) (fun q => nx.length - q.1) (fun q => q.1 ≤ nx.length ∧ SpOk ps q.2 ∧ (nx.drop q.1).foldl KS q.2 = nx.foldl KS out) (0, out) ⟨Nat.zero_le _, hok, rfl⟩ ⟨rfl, rfl, rfl, rfl, rfl, rfl, rfl, rfl, trivial⟩ rfl ?_
    rintro ⟨j, o2⟩ ⟨hj, hok2, hgo2⟩
    simp only at hj hok2 hgo2 ⊢
    by_cases hjl : j < nx.length
    · obtain ⟨k, hk⟩ : ∃ k, nx[j]? = some k := ⟨nx[j], List.getElem?_eq_getElem hjl⟩
      have hkv := hn1 k (List.mem_of_getElem? hk)
      rw [drop_at hk, List.foldl_cons, hks] at hgo2
      have hko2 := hko o2 k hok2 hkv
      rw [hks] at hko2
      have hol := spOk_len hp hok2
      have hst : p.sets[k.toNat]? = some (p.sets.getD k.toNat 0) := by
        rw [List.getD_eq_getElem?_getD, List.getElem?_eq_getElem (by omega)]; rfl
      generalize p.sets.getD k.toNat 0 = S at *
      have hhas := fun M => refHas_calls (S := S) hc M
      have hsa : wordsA S = [.int .u64 (wordOf S 0 : Nat), .int .u64 (wordOf S 1 : Nat), .int .u64 (wordOf S 2 : Nat), .int .u64 (wordOf S 3 : Nat)] := rfl
      cases hb : S.testBit c with
      | true =>
        rw [hb, if_pos rfl] at hgo2 hko2
        simp only [hb] at hhas
        have hadd := fun M => sadd_calls (l := o2) (s := (x.1, k)) (by omega) M
        repeat' (first | refine aops_end ?_ | refine aops_pbt tok rfl (by first | omega | decide) rfl rfl rfl ?_ | refine aops_p tok rfl rfl rfl rfl ?_ | refine acode_it rfl ?_ | refine acode_seq ?_ | refine acode_region ?_ | refine acode_block ?_ | refine acode_skip ?_ | refine then_n ?_)
        all_goals try (exfalso; omega)
        refine acode_drawT 10 mixed (by kernel_rfl) (by kernel_rfl) ?_
        repeat (refine seqT_p tok rfl rfl rfl rfl ?_)
        refine seqT_ix tok [.int .i64 k] rfl rfl rfl rfl (by omega) (by omega) (by simp) (ints_at (by simpa using hk)) rfl rfl rfl ?_
        repeat (refine seqT_p tok rfl rfl rfl rfl ?_)
        refine seqT_ix tok (wordsA S) rfl rfl rfl rfl hkv.1 hkv.2 (by simp [wordsA]) (encs_at (e := wordsA) (s := 4) (fun _ => rfl) hst) rfl rfl rfl ?_
        repeat (refine seqT_p tok rfl rfl rfl rfl ?_)
        refine seqT_call _ Try.func21 rfl rfl rfl rfl (hhas _) rfl rfl rfl ?_
        refine SeqT.done ?_
        repeat' (first | refine aops_end ?_ | refine acode_it rfl ?_)
        refine acode_drawT 12 mixed (by kernel_rfl) (by kernel_rfl) ?_
        repeat (refine seqT_p tok rfl rfl rfl rfl ?_)
        refine seqT_ix tok (spC x) rfl rfl rfl rfl (by omega) (by omega) (by simp [spC]) (by simpa using hxs) rfl rfl rfl ?_
        repeat (refine seqT_p tok rfl rfl rfl rfl ?_)
        refine seqT_ix tok [.int .i64 k] rfl rfl rfl rfl (by omega) (by omega) (by simp) (ints_at (by simpa using hk)) rfl rfl rfl ?_
        repeat (refine seqT_p tok rfl rfl rfl rfl ?_)
        refine seqT_call _ Try.func26 rfl rfl rfl rfl (hadd _) rfl rfl rfl ?_
        skip
        refine SeqT.done ?_
        repeat (first | refine aops_end ?_ | refine aops_endb ?_ | refine aops_a tok rfl (by omega) (by omega) rfl rfl rfl ?_ | refine aops_p tok rfl rfl rfl rfl ?_ | refine acode_region ?_ | refine then_n ?_)
        exact ⟨(j + 1, addF o2 (x.1, k)), ⟨by simp only; omega, hko2, hgo2⟩, by simp only; omega, ⟨rfl, rfl, rfl, rfl, rfl, rfl, rfl, rfl, trivial⟩, rfl⟩
      | false =>
        rw [hb, if_neg (by simp)] at hgo2
        simp only [hb] at hhas
        repeat' (first | refine aops_end ?_ | refine aops_pbt tok rfl (by first | omega | decide) rfl rfl rfl ?_ | refine aops_p tok rfl rfl rfl rfl ?_ | refine acode_it rfl ?_ | refine acode_seq ?_ | refine acode_region ?_ | refine acode_block ?_ | refine acode_skip ?_ | refine then_n ?_)
        all_goals try (exfalso; omega)
        refine acode_drawT 10 mixed (by kernel_rfl) (by kernel_rfl) ?_
        repeat (refine seqT_p tok rfl rfl rfl rfl ?_)
        refine seqT_ix tok [.int .i64 k] rfl rfl rfl rfl (by omega) (by omega) (by simp) (ints_at (by simpa using hk)) rfl rfl rfl ?_
        repeat (refine seqT_p tok rfl rfl rfl rfl ?_)
        refine seqT_ix tok (wordsA S) rfl rfl rfl rfl hkv.1 hkv.2 (by simp [wordsA]) (encs_at (e := wordsA) (s := 4) (fun _ => rfl) hst) rfl rfl rfl ?_
        repeat (refine seqT_p tok rfl rfl rfl rfl ?_)
        refine seqT_call _ Try.func21 rfl rfl rfl rfl (hhas _) rfl rfl rfl ?_
        refine SeqT.done ?_
        repeat' (first | refine aops_end ?_ | refine aops_a tok rfl (by omega) (by omega) rfl rfl rfl ?_ | refine aops_p tok rfl rfl rfl rfl ?_ | refine acode_if rfl ?_ | refine acode_region ?_ | refine acode_skip ?_ | refine then_n ?_ | refine block_n ?_)
        exact ⟨(j + 1, o2), ⟨by simp only; omega, hok2, hgo2⟩, by simp only; omega, ⟨rfl, rfl, rfl, rfl, rfl, rfl, rfl, rfl, trivial⟩, rfl⟩
    · obtain rfl : j = nx.length := by omega
      rw [List.drop_length, List.foldl_nil] at hgo2
      subst hgo2
      repeat' (first | refine aops_end ?_ | refine aops_pbf tok rfl (by first | omega | decide) rfl rfl rfl ?_ | refine aops_p tok rfl rfl rfl rfl ?_ | refine acode_if rfl ?_ | refine acode_seq ?_ | refine acode_region ?_)
      all_goals try (exfalso; omega)
      refine acode_exit ?_
      repeat (first | refine exit_then ?_ | refine exit_here ?_ | refine then_n ?_ | refine block_n ?_)
      repeat (first | refine aops_end ?_ | refine aops_a tok rfl (by omega) (by omega) rfl rfl rfl ?_ | refine aops_p tok rfl rfl rfl rfl ?_ | refine acode_region ?_)
      exact ⟨(i + 1, nx.foldl KS out), ⟨by simp only; omega, hok2, hgo⟩, by simp only; omega, ⟨rfl, rfl, rfl, rfl, rfl, trivial⟩, rfl⟩
  · obtain rfl : i = s.length := by omega
    rw [List.drop_length, List.foldl_nil] at hgo
    subst hgo
    repeat' (first | refine aops_end ?_ | refine aops_pbf tok rfl (by first | omega | decide) rfl rfl rfl ?_ | refine aops_p tok rfl rfl rfl rfl ?_ | refine acode_if rfl ?_ | refine acode_seq ?_ | refine acode_region ?_)
    all_goals try (exfalso; omega)
    refine acode_exit ?_
    repeat (first | refine exit_then ?_ | refine exit_here ?_ | refine then_n ?_)
    repeat (first | refine aops_end ?_ | refine aops_p tok rfl rfl rfl rfl ?_ | refine acode_seq ?_ | refine acode_region ?_)
    refine acode_ret ?_
    skip
    exact ⟨_, ⟨rfl, rfl⟩, resOf_tmp rfl⟩
end Go.Proofs.Ytobpbelgihilpaa.Ab
/- Chapter 5: the reference's parts, alike, useful: the walk. No condition. -/
set_option linter.unusedVariables false
set_option linter.unusedSimpArgs false
namespace Go.Proofs.Ytobpbelgihilpaa.Ab
attribute [local irreducible] thenA inBlockA ACode AOps put IntKind.wrap

def bools (l : List Bool) : List A := l.map A.bool
theorem bools_len (l : List Bool) : (bools l).length = l.length := by simp [bools]
theorem bools_get {l : List Bool} {j : Nat} {x : Bool} (h : l[j]? = some x) : (bools l)[j * 1]? = some (A.bool x) := by rw [Nat.mul_one]; simp [bools, h]
theorem bools_zeros (n : Nat) : zerosA [A.bool false] n = bools (List.replicate n false) := by rw [zerosA_one]; simp [bools]
theorem bools_set {l : List Bool} {j : Nat} (h : j < l.length) (x : Bool) : (bools l).take (j * 1) ++ ([A.bool x] ++ (bools l).drop (j * 1 + 1)) = bools (l.set j x) := by
  rw [Nat.mul_one, List.set_eq_take_append_cons_drop, if_pos h]; simp [bools]
/-- How many numbers there are. -/
def partsF (l : List Int) : Nat := (List.range l.length).countP fun i => !(l.take i).contains (l.getD i 0)
theorem sparts_calls {l : List Int} (hl : l.length ≤ 1000000) (M : List Ob) : ACalls Try.prog 31 [.psl l.length (ints l)] M (fun r M' => r = .int .i64 (partsF l) ∧ M' = M) := by
  refine acalls_of_code 23 Try.func31 rfl rfl rfl ?_
  repeat (first | refine aops_end ?_ | refine aops_p tok rfl rfl rfl rfl ?_ | refine acode_seq ?_ | refine acode_region ?_ | refine acode_block ?_)
  refine acode_loopS (ι := Nat) (fun i => [(0, .psl l.length (ints l)), (3, .int .i64 ((List.range i).countP fun i => !(l.take i).contains (l.getD i 0))), (4, .int .i64 i)]) (fun _ => M) (fun i => l.length - i) (fun i => i ≤ l.length) 0 (Nat.zero_le _) ⟨rfl, rfl, rfl, trivial⟩ rfl ?_
  rintro i hi
  have hcl : (List.range i).countP (fun i => !(l.take i).contains (l.getD i 0)) ≤ i := by
    have := List.countP_le_length (l := List.range i) (p := fun i => !(l.take i).contains (l.getD i 0))
    simpa using this
  by_cases hil : i < l.length
  · obtain ⟨x, hx⟩ : ∃ x, l[i]? = some x := ⟨l[i], List.getElem?_eq_getElem hil⟩
    have hgd : l.getD i 0 = x := by rw [List.getD_eq_getElem?_getD, hx]; rfl
    have hin := fun M => sin_calls (l := l.take i) (n := x) (by rw [List.length_take]; omega) M
    have hnx : (List.range (i + 1)).countP (fun i => !(l.take i).contains (l.getD i 0)) = (List.range i).countP (fun i => !(l.take i).contains (l.getD i 0)) + if !(l.take i).contains x then 1 else 0 := by
      rw [List.range_succ, List.countP_append, List.countP_singleton, hgd]
    generalize (List.range i).countP (fun i => !(l.take i).contains (l.getD i 0)) = n at *
    repeat' (first | refine aops_end ?_ | refine aops_pbt tok rfl (by first | omega | decide) rfl rfl rfl ?_ | refine aops_p tok rfl rfl rfl rfl ?_ | refine acode_it rfl ?_ | refine acode_seq ?_ | refine acode_region ?_ | refine acode_block ?_ | refine acode_skip ?_ | refine then_n ?_)
    all_goals try (exfalso; omega)
    refine acode_drawT 9 mixed (by kernel_rfl) (by kernel_rfl) ?_
    repeat (refine seqT_p tok rfl rfl rfl rfl ?_)
    refine seqT_y (yields_slice tok rfl rfl rfl rfl rfl (by omega) (by omega) (by omega) (l.take i).length (ints (l.take i)) (by rw [List.length_take]; omega) (by rw [ints_len, Nat.mul_one]) (by simp [ints, List.map_take]) rfl rfl) rfl ?_
    repeat (refine seqT_p tok rfl rfl rfl rfl ?_)
    refine seqT_ix tok [.int .i64 x] rfl rfl rfl rfl (by omega) (by omega) (by simp) (ints_at (by simpa using hx)) rfl rfl rfl ?_
    repeat (refine seqT_p tok rfl rfl rfl rfl ?_)
    refine seqT_call _ Try.func35 rfl rfl rfl rfl (hin _) rfl rfl rfl ?_
    repeat (refine seqT_p tok rfl rfl rfl rfl ?_)
    refine SeqT.done ?_
    cases hc : (l.take i).contains x with
    | true =>
      rw [hc] at hnx
      simp only [Bool.not_true, Bool.false_eq_true, if_false] at hnx
      repeat' (first | refine aops_end ?_ | refine aops_a tok rfl (by omega) (by omega) rfl rfl rfl ?_ | refine aops_p tok rfl rfl rfl rfl ?_ | refine acode_if rfl ?_ | refine acode_region ?_ | refine acode_skip ?_ | refine then_n ?_ | refine block_n ?_)
      exact ⟨i + 1, by omega, by omega, ⟨rfl, by rw [hnx]; rfl, rfl, trivial⟩, rfl⟩
    | false =>
      rw [hc] at hnx
      simp only [Bool.not_false, if_true] at hnx
      repeat' (first | refine aops_end ?_ | refine aops_endb ?_ | refine aops_a tok rfl (by omega) (by omega) rfl rfl rfl ?_ | refine aops_p tok rfl rfl rfl rfl ?_ | refine acode_it rfl ?_ | refine acode_region ?_ | refine then_n ?_)
      exact ⟨i + 1, by omega, by omega, ⟨rfl, by rw [hnx]; rfl, rfl, trivial⟩, rfl⟩
  · obtain rfl : i = l.length := by omega
    repeat' (first | refine aops_end ?_ | refine aops_pbf tok rfl (by first | omega | decide) rfl rfl rfl ?_ | refine aops_p tok rfl rfl rfl rfl ?_ | refine acode_if rfl ?_ | refine acode_seq ?_ | refine acode_region ?_)
    all_goals try (exfalso; omega)
    refine acode_exit ?_
    repeat (first | refine exit_then ?_ | refine exit_here ?_ | refine then_n ?_)
    repeat (first | refine aops_end ?_ | refine aops_p tok rfl rfl rfl rfl ?_ | refine acode_seq ?_ | refine acode_region ?_)
    refine acode_ret ?_
    skip
    exact ⟨_, ⟨rfl, rfl⟩, resOf_tmp rfl⟩
/-- What is known of an automaton before it is the least. -/
structure RwOk (nx : List (List Int)) (ac : List Int) : Prop where
  n : nx.length ≤ 400
  len : nx.length = ac.length
  row : ∀ (i : Nat) (r : List Int), nx[i]? = some r → r.length = 256
  to : ∀ (i : Nat) (r : List Int), nx[i]? = some r → ∀ v ∈ r, -1 ≤ v ∧ v < (nx.length : Int)
  acc : ∀ v ∈ ac, -1 ≤ v ∧ v ≤ 40
abbrev rawC (nx : List (List Int)) (ac : List Int) (m : Bool) : List A := [.psl nx.length (encs lsC nx), .psl ac.length (ints ac), .bool m]
theorem RwOk.at {nx : List (List Int)} {ac : List Int} (h : RwOk nx ac) {i c : Nat} (hi : i < nx.length) (hc : c < 256) : ∃ r, nx[i]? = some r ∧ r.length = 256 ∧ r[c]? = some (cellI nx i c) ∧ -1 ≤ cellI nx i c ∧ cellI nx i c < (nx.length : Int) := by
  have hr := List.getElem?_eq_getElem hi
  have hl := h.row i _ hr
  have hv : (nx[i])[c]? = some (cellI nx i c) := by
    unfold cellI
    simp only [List.getD_eq_getElem?_getD, hr, Option.getD_some]
    rw [List.getElem?_eq_getElem (by omega)]; rfl
  exact ⟨_, hr, hl, hv, h.to i _ hr _ (List.mem_of_getElem? hv)⟩
theorem row_cell {nx : List (List Int)} {i : Int} {r : List Int} (h : nx[i.toNat]? = some r) : [A.psl r.length (ints r)] <+: (encs lsC nx).drop (i.toNat * 1) := encs_at (e := lsC) (s := 1) (fun _ => rfl) h
/-- Do a byte of two states lead to one class? -/
def alikeC (cl : List Int) (a b : Int) : Bool := decide ((a < 0) = (b < 0)) && (decide (a < 0) || decide (cl.getD a.toNat 0 = cl.getD b.toNat 0))
def alikeB (nx : List (List Int)) (cl : List Int) (i k : Nat) : Bool := decide (cl.getD i 0 = cl.getD k 0) && (List.range 256).all fun c => alikeC cl (cellI nx i c) (cellI nx k c)
set_option maxHeartbeats 4000000 in
theorem salike_calls {nx : List (List Int)} {ac cl : List Int} {i k : Nat} (h : RwOk nx ac) (hcl : cl.length = nx.length) (hi : i < nx.length) (hk : k < nx.length) (m : Bool) (M : List Ob) : ACalls Try.prog 30 [.agg (rawC nx ac m), .psl cl.length (ints cl), .int .i64 i, .int .i64 k] M (fun r M' => r = .bool (alikeB nx cl i k) ∧ M' = M) := by
  have hn := h.n
  have gcl : ∀ j : Nat, j < cl.length → cl[j]? = some (cl.getD j 0) := fun j hj => by rw [List.getD_eq_getElem?_getD, List.getElem?_eq_getElem hj]; rfl
  refine acalls_of_code 61 Try.func30 rfl rfl rfl ?_
  repeat (first | refine acode_seq ?_ | refine acode_region ?_)
  refine aops_boxf rfl rfl rfl rfl rfl rfl rfl ?_
  repeat (first | refine aops_end ?_ | refine aops_p tok rfl rfl rfl rfl ?_ | refine acode_seq ?_)
  refine acode_drawT 9 mixed (by kernel_rfl) (by kernel_rfl) ?_
  repeat (refine seqT_p tok rfl rfl rfl rfl ?_)
  refine seqT_ix tok [.int .i64 (cl.getD i 0)] rfl rfl rfl rfl (by omega) (by omega) (by simp) (ints_at (by simpa using gcl i (by omega))) rfl rfl rfl ?_
  repeat (refine seqT_p tok rfl rfl rfl rfl ?_)
  refine seqT_ix tok [.int .i64 (cl.getD k 0)] rfl rfl rfl rfl (by omega) (by omega) (by simp) (ints_at (by simpa using gcl k (by omega))) rfl rfl rfl ?_
  unfold alikeB
  by_cases hc0 : cl.getD i 0 = cl.getD k 0
  rotate_left
  · rw [decide_eq_false hc0, Bool.false_and]
    repeat' (first | (refine seqT_pn tok rfl rfl rfl rfl ?_ ?_ <;> intro e_) | refine seqT_p tok rfl rfl rfl rfl ?_)
    all_goals try (exfalso; omega)
    refine SeqT.done ?_
    repeat' (first | refine aops_end ?_ | refine aops_p tok rfl rfl rfl rfl ?_ | refine acode_it rfl ?_ | refine acode_seq ?_ | refine acode_region ?_)
    all_goals try (exfalso; omega)
    all_goals
      refine acode_ret ?_
      repeat (refine ret_then ?_)
      exact ⟨_, ⟨rfl, rfl⟩, resOf_tmp rfl⟩
  rw [decide_eq_true hc0, Bool.true_and]
  repeat' (first | (refine seqT_pn tok rfl rfl rfl rfl ?_ ?_ <;> intro e_) | refine seqT_p tok rfl rfl rfl rfl ?_)
  all_goals try (exfalso; omega)
  refine SeqT.done ?_
  repeat' (first | refine aops_end ?_ | refine aops_p tok rfl rfl rfl rfl ?_ | refine acode_if rfl ?_ | refine acode_seq ?_ | refine acode_region ?_ | refine acode_block ?_ | refine acode_skip ?_ | refine then_n ?_)
  all_goals try (exfalso; omega)
  refine acode_loopS (ι := Nat) (fun c => [(1, .psl cl.length (ints cl)), (2, .int .i64 i), (3, .int .i64 k), (4, .pp (rawC nx ac m)), (9, .int .i64 c)]) (fun _ => M) (fun c => 256 - c) (fun c => c ≤ 256 ∧ ((List.range c).all fun c => alikeC cl (cellI nx i c) (cellI nx k c)) = true) 0 ⟨Nat.zero_le _, rfl⟩ ⟨rfl, rfl, rfl, rfl, rfl, trivial⟩ rfl ?_
  rintro c ⟨hc, hall⟩
  by_cases hc2 : c < 256
  · obtain ⟨r1, e1, e2, e3, e4, e5⟩ := h.at hi hc2
    obtain ⟨r2, f1, f2, f3, f4, f5⟩ := h.at hk hc2
    have hnext : ((List.range (c + 1)).all fun c => alikeC cl (cellI nx i c) (cellI nx k c)) = alikeC cl (cellI nx i c) (cellI nx k c) := by
      rw [List.range_succ, List.all_append, hall]; simp
    have hfull : alikeC cl (cellI nx i c) (cellI nx k c) = false → ((List.range 256).all fun c => alikeC cl (cellI nx i c) (cellI nx k c)) = false := fun hf => by
      rw [List.all_eq_false]
      exact ⟨c, by simpa using hc2, by simp [hf]⟩
    have hA : alikeC cl (cellI nx i c) (cellI nx k c) = (decide ((cellI nx i c < 0) = (cellI nx k c < 0)) && (decide (cellI nx i c < 0) || decide (cl.getD (cellI nx i c).toNat 0 = cl.getD (cellI nx k c).toNat 0))) := rfl
    rw [hA] at hnext hfull
    have g1 := gcl (cellI nx i c).toNat
    have g2 := gcl (cellI nx k c).toNat
    generalize cellI nx i c = a at *
    generalize cellI nx k c = b at *
    repeat' (first | refine aops_end ?_ | refine aops_pbt tok rfl (by first | omega | decide) rfl rfl rfl ?_ | refine aops_p tok rfl rfl rfl rfl ?_ | refine acode_it rfl ?_ | refine acode_seq ?_ | refine acode_region ?_ | refine acode_block ?_ | refine acode_skip ?_ | refine then_n ?_)
    all_goals try (exfalso; omega)
    refine aops_ix tok [.psl r1.length (ints r1)] rfl rfl rfl rfl (by omega) (by omega) (by simp) (row_cell (by simpa using e1)) rfl rfl rfl ?_
    repeat (refine aops_p tok rfl rfl rfl rfl ?_)
    refine aops_ix tok [.int .i64 a] rfl rfl rfl rfl (by omega) (by omega) (by simp) (ints_at (by simpa using e3)) rfl rfl rfl ?_
    repeat (first | refine aops_end ?_ | refine aops_p tok rfl rfl rfl rfl ?_ | refine acode_seq ?_ | refine acode_region ?_)
    refine aops_ix tok [.psl r2.length (ints r2)] rfl rfl rfl rfl (by omega) (by omega) (by simp) (row_cell (by simpa using f1)) rfl rfl rfl ?_
    repeat (refine aops_p tok rfl rfl rfl rfl ?_)
    refine aops_ix tok [.int .i64 b] rfl rfl rfl rfl (by omega) (by omega) (by simp) (ints_at (by simpa using f3)) rfl rfl rfl ?_
    repeat (first | refine aops_end ?_ | refine aops_p tok rfl rfl rfl rfl ?_ | refine acode_seq ?_)
    by_cases ha : a < 0
    · by_cases hb : b < 0
      · have ht : (decide ((a < 0) = (b < 0)) && (decide (a < 0) || decide (cl.getD a.toNat 0 = cl.getD b.toNat 0))) = true := by simp [ha, hb]
        rw [ht] at hnext
        refine acode_drawT 20 mixed (by kernel_rfl) (by kernel_rfl) ?_
        repeat' (first | (refine seqT_pd tok rfl rfl rfl rfl ?_ ?_ <;> intro e_) | refine seqT_p tok rfl rfl rfl rfl ?_)
        all_goals try (exfalso; omega)
        refine seqT_neb tok rfl rfl rfl rfl rfl rfl rfl ?_
        repeat' (first | refine seqT_o rfl rfl rfl ?_ | (refine seqT_pd tok rfl rfl rfl rfl ?_ ?_ <;> intro e_) | refine seqT_p tok rfl rfl rfl rfl ?_)
        all_goals try (exfalso; omega)
        refine SeqT.done ?_
        repeat' (first | refine aops_end ?_ | refine aops_a tok rfl (by omega) (by omega) rfl rfl rfl ?_ | refine aops_p tok rfl rfl rfl rfl ?_ | refine acode_if rfl ?_ | refine acode_region ?_ | refine acode_skip ?_ | refine then_n ?_ | refine block_n ?_)
        exact ⟨c + 1, ⟨by omega, hnext⟩, by omega, ⟨rfl, rfl, rfl, rfl, rfl, trivial⟩, rfl⟩
      · have ht : (decide ((a < 0) = (b < 0)) && (decide (a < 0) || decide (cl.getD a.toNat 0 = cl.getD b.toNat 0))) = false := by simp [ha, hb]
        rw [hfull ht]
        refine acode_drawT 20 mixed (by kernel_rfl) (by kernel_rfl) ?_
        repeat' (first | (refine seqT_pd tok rfl rfl rfl rfl ?_ ?_ <;> intro e_) | refine seqT_p tok rfl rfl rfl rfl ?_)
        all_goals try (exfalso; omega)
        refine seqT_neb tok rfl rfl rfl rfl rfl rfl rfl ?_
        repeat' (first | refine seqT_o rfl rfl rfl ?_ | refine seqT_p tok rfl rfl rfl rfl ?_)
        all_goals try (exfalso; omega)
        refine SeqT.done ?_
        repeat' (first | refine aops_end ?_ | refine aops_p tok rfl rfl rfl rfl ?_ | refine acode_it rfl ?_ | refine acode_seq ?_ | refine acode_region ?_)
        refine acode_ret ?_
        repeat (first | refine ret_then ?_ | refine ret_block ?_)
        exact ⟨_, ⟨rfl, rfl⟩, resOf_tmp rfl⟩
    · by_cases hb : b < 0
      · have ht : (decide ((a < 0) = (b < 0)) && (decide (a < 0) || decide (cl.getD a.toNat 0 = cl.getD b.toNat 0))) = false := by simp [ha, hb]
        rw [hfull ht]
        refine acode_drawT 20 mixed (by kernel_rfl) (by kernel_rfl) ?_
        repeat' (first | (refine seqT_pd tok rfl rfl rfl rfl ?_ ?_ <;> intro e_) | refine seqT_p tok rfl rfl rfl rfl ?_)
        all_goals try (exfalso; omega)
        refine seqT_neb tok rfl rfl rfl rfl rfl rfl rfl ?_
        repeat' (first | refine seqT_o rfl rfl rfl ?_ | refine seqT_p tok rfl rfl rfl rfl ?_)
        all_goals try (exfalso; omega)
        refine SeqT.done ?_
        repeat' (first | refine aops_end ?_ | refine aops_p tok rfl rfl rfl rfl ?_ | refine acode_it rfl ?_ | refine acode_seq ?_ | refine acode_region ?_)
        refine acode_ret ?_
        repeat (first | refine ret_then ?_ | refine ret_block ?_)
        exact ⟨_, ⟨rfl, rfl⟩, resOf_tmp rfl⟩
      · have g1 := g1 (by omega)
        have g2 := g2 (by omega)
        generalize cl.getD a.toNat 0 = ca at *
        generalize cl.getD b.toNat 0 = cb at *
        refine acode_drawT 20 mixed (by kernel_rfl) (by kernel_rfl) ?_
        repeat' (first | (refine seqT_pd tok rfl rfl rfl rfl ?_ ?_ <;> intro e_) | refine seqT_p tok rfl rfl rfl rfl ?_)
        all_goals try (exfalso; omega)
        refine seqT_neb tok rfl rfl rfl rfl rfl rfl rfl ?_
        repeat' (first | refine seqT_o rfl rfl rfl ?_ | (refine seqT_pd tok rfl rfl rfl rfl ?_ ?_ <;> intro e_) | refine seqT_p tok rfl rfl rfl rfl ?_)
        all_goals try (exfalso; omega)
        refine seqT_ix tok [.int .i64 ca] rfl rfl rfl rfl (by omega) (by omega) (by simp) (ints_at g1) rfl rfl rfl ?_
        repeat (refine seqT_p tok rfl rfl rfl rfl ?_)
        refine seqT_ix tok [.int .i64 cb] rfl rfl rfl rfl (by omega) (by omega) (by simp) (ints_at g2) rfl rfl rfl ?_
        by_cases hab : ca = cb
        · have ht : (decide ((a < 0) = (b < 0)) && (decide (a < 0) || decide (ca = cb))) = true := by simp [ha, hb, hab]
          rw [ht] at hnext
          repeat' (first | (refine seqT_pn tok rfl rfl rfl rfl ?_ ?_ <;> intro e_) | refine seqT_p tok rfl rfl rfl rfl ?_)
          all_goals try (exfalso; omega)
          refine SeqT.done ?_
          repeat' (first | refine aops_end ?_ | refine aops_a tok rfl (by omega) (by omega) rfl rfl rfl ?_ | refine aops_p tok rfl rfl rfl rfl ?_ | refine acode_if rfl ?_ | refine acode_region ?_ | refine acode_skip ?_ | refine then_n ?_ | refine block_n ?_)
          exact ⟨c + 1, ⟨by omega, hnext⟩, by omega, ⟨rfl, rfl, rfl, rfl, rfl, trivial⟩, rfl⟩
        · have ht : (decide ((a < 0) = (b < 0)) && (decide (a < 0) || decide (ca = cb))) = false := by simp [ha, hb, hab]
          rw [hfull ht]
          repeat' (first | (refine seqT_pn tok rfl rfl rfl rfl ?_ ?_ <;> intro e_) | refine seqT_p tok rfl rfl rfl rfl ?_)
          all_goals try (exfalso; omega)
          refine SeqT.done ?_
          repeat' (first | refine aops_end ?_ | refine aops_p tok rfl rfl rfl rfl ?_ | refine acode_it rfl ?_ | refine acode_seq ?_ | refine acode_region ?_)
          refine acode_ret ?_
          repeat (first | refine ret_then ?_ | refine ret_block ?_)
          exact ⟨_, ⟨rfl, rfl⟩, resOf_tmp rfl⟩
  · obtain rfl : c = 256 := by omega
    rw [hall]
    repeat' (first | refine aops_end ?_ | refine aops_pbf tok rfl (by first | omega | decide) rfl rfl rfl ?_ | refine aops_p tok rfl rfl rfl rfl ?_ | refine acode_if rfl ?_ | refine acode_seq ?_ | refine acode_region ?_)
    all_goals try (exfalso; omega)
    refine acode_exit ?_
    repeat (first | refine exit_then ?_ | refine exit_here ?_ | refine then_n ?_)
    repeat (first | refine aops_end ?_ | refine aops_p tok rfl rfl rfl rfl ?_ | refine acode_seq ?_ | refine acode_region ?_)
    refine acode_ret ?_
    skip
    exact ⟨_, ⟨rfl, rfl⟩, resOf_tmp rfl⟩
end Go.Proofs.Ytobpbelgihilpaa.Ab
/- Chapter 5 in plain terms: states that are alike, and when no more of them can be told apart. No condition. -/
set_option linter.unusedVariables false
set_option linter.unusedSimpArgs false
namespace Go.Proofs.Ytobpbelgihilpaa.Ab

/-- How many have nothing ahead that is the same. -/
def firstN (E : Nat → Nat → Bool) (n : Nat) : Nat := (List.range n).countP fun j => (List.range j).all fun k => !E j k
theorem firstN_succ (E : Nat → Nat → Bool) (n : Nat) : firstN E (n + 1) = firstN E n + if (List.range n).all (fun k => !E n k) then 1 else 0 := by
  unfold firstN
  rw [List.range_succ, List.countP_append, List.countP_singleton]
theorem firstN_le (E : Nat → Nat → Bool) (n : Nat) : firstN E n ≤ n := by
  unfold firstN
  have := List.countP_le_length (l := List.range n) (p := fun j => (List.range j).all fun k => !E j k)
  simpa using this
theorem first_none {E : Nat → Nat → Bool} {j : Nat} : (List.range j).all (fun k => !E j k) = true ↔ ∀ k, k < j → E j k = false := by
  rw [List.all_eq_true]
  constructor
  · intro h k hk; simpa using h k (by simpa using hk)
  · intro h k hk; simpa using h k (by simpa using hk)
theorem parts_first (l : List Int) : partsF l = firstN (fun j k => decide (l.getD j 0 = l.getD k 0)) l.length := by
  unfold partsF firstN
  refine List.countP_congr fun j hj => ?_
  have hj : j < l.length := by simpa using hj
  refine Iff.trans ?_ (first_none (E := fun j k => decide (l.getD j 0 = l.getD k 0)) (j := j)).symm
  simp only [Bool.not_eq_true', decide_eq_false_iff_not]
  constructor
  · intro h k hk e
    have : l.getD k 0 ∈ l.take j := by
      rw [List.getD_eq_getElem?_getD, List.getElem?_eq_getElem (by omega), Option.getD_some]
      exact List.mem_take_iff_getElem.2 ⟨k, by omega, rfl⟩
    rw [← e] at this
    rw [List.contains_iff_mem.2 this] at h
    cases h
  · intro h
    cases hc : (l.take j).contains (l.getD j 0) with
    | false => rfl
    | true =>
      obtain ⟨k, hk, e⟩ := List.mem_take_iff_getElem.1 (List.contains_iff_mem.1 hc)
      refine absurd ?_ (h k (by omega))
      rw [← e, List.getD_eq_getElem?_getD (l := l) (i := k), List.getElem?_eq_getElem (by omega), Option.getD_some]
theorem countP_all {p q : Nat → Bool} : ∀ {L : List Nat}, (∀ x ∈ L, p x = true → q x = true) → L.countP p = L.countP q → ∀ x ∈ L, q x = true → p x = true
  | [], _, _, x, hx, _ => by cases hx
  | y :: L, h, he, x, hx, hq => by
    have hle : L.countP p ≤ L.countP q := List.countP_mono_left fun z hz hp => h z (by simp [hz]) hp
    rw [List.countP_cons, List.countP_cons] at he
    have hy := h y (by simp)
    cases hp : p y with
    | true =>
      rw [hp, hy hp] at he
      rcases List.mem_cons.1 hx with rfl | hx
      · exact hp
      · exact countP_all (fun z hz => h z (by simp [hz])) (by simpa using he) x hx hq
    | false =>
      cases hqy : q y with
      | true => rw [hp, hqy] at he; simp at he; omega
      | false =>
        rw [hp, hqy] at he
        rcases List.mem_cons.1 hx with rfl | hx
        · rw [hqy] at hq; cases hq
        · exact countP_all (fun z hz => h z (by simp [hz])) (by simpa using he) x hx hq
structure EqvB (E : Nat → Nat → Bool) : Prop where
  refl : ∀ i, E i i = true
  symm : ∀ i k, E i k = true → E k i = true
  trans : ∀ i j k, E i j = true → E j k = true → E i k = true
/-- Of each the first that is the same. -/
theorem first_of {E : Nat → Nat → Bool} (hE : EqvB E) : ∀ i : Nat, ∃ j, j ≤ i ∧ E i j = true ∧ ∀ k, k < j → E j k = false := by
  intro i
  induction i using Nat.strongRecOn with
  | _ i ih =>
    by_cases h : ∃ k, k < i ∧ E i k = true
    · obtain ⟨k, hk, he⟩ := h
      obtain ⟨j, h1, h2, h3⟩ := ih k hk
      exact ⟨j, by omega, hE.trans _ _ _ he h2, h3⟩
    · refine ⟨i, Nat.le_refl _, hE.refl i, fun k hk => ?_⟩
      cases he : E i k with
      | false => rfl
      | true => exact absurd ⟨k, hk, he⟩ h
/-- A finer sameness with as many classes is the same one. -/
theorem same_classes {E0 E1 : Nat → Nat → Bool} {n : Nat} (h0 : EqvB E0) (h1 : EqvB E1) (hsub : ∀ i k, E1 i k = true → E0 i k = true) (hc : firstN E0 n = firstN E1 n) {i k : Nat} (hi : i < n) (hk : k < n) (h : E0 i k = true) : E1 i k = true := by
  have hpt : ∀ j, j < n → (∀ k, k < j → E1 j k = false) → ∀ k, k < j → E0 j k = false := by
    intro j hj hf
    refine first_none.1 (countP_all (p := fun j => (List.range j).all fun k => !E0 j k) (q := fun j => (List.range j).all fun k => !E1 j k) (L := List.range n) (fun x _ hx => ?_) hc j (by simpa using hj) (first_none.2 hf))
    refine first_none.2 fun k hk => ?_
    have := first_none.1 hx k hk
    cases he : E1 x k with
    | false => rfl
    | true => rw [hsub x k he] at this; cases this
  obtain ⟨a, a1, a2, a3⟩ := first_of h1 i
  obtain ⟨b, b1, b2, b3⟩ := first_of h1 k
  have a4 := hpt a (by omega) a3
  have b4 := hpt b (by omega) b3
  have hab : E0 a b = true := h0.trans _ _ _ (h0.symm _ _ (hsub _ _ a2)) (h0.trans _ _ _ h (hsub _ _ b2))
  have : a = b := by
    rcases Nat.lt_trichotomy a b with h' | h' | h'
    · have := b4 a h'; rw [h0.symm _ _ hab] at this; cases this
    · exact h'
    · have := a4 b h'; rw [hab] at this; cases this
  subst this
  exact h1.trans _ _ _ a2 (h1.symm _ _ b2)
theorem firstN_mono {E0 E1 : Nat → Nat → Bool} {n : Nat} (hsub : ∀ i k, E1 i k = true → E0 i k = true) : firstN E0 n ≤ firstN E1 n := by
  unfold firstN
  refine List.countP_mono_left fun x _ hx => ?_
  refine first_none.2 fun k hk => ?_
  have := first_none.1 hx k hk
  cases he : E1 x k with
  | false => rfl
  | true => rw [hsub x k he] at this; cases this
theorem firstN_congr {E0 E1 : Nat → Nat → Bool} {n : Nat} (h : ∀ i k, i < n → k < i → E0 i k = E1 i k) : firstN E0 n = firstN E1 n := by
  unfold firstN
  refine List.countP_congr fun j hj => ?_
  have hj : j < n := by simpa using hj
  rw [first_none, first_none]
  constructor
  · intro g k hk; rw [← h j k hj hk]; exact g k hk
  · intro g k hk; rw [h j k hj hk]; exact g k hk
theorem alikeC_eqv (cl : List Int) : (∀ a, alikeC cl a a = true) ∧ (∀ a b, alikeC cl a b = true → alikeC cl b a = true) ∧ ∀ a b c, alikeC cl a b = true → alikeC cl b c = true → alikeC cl a c = true := by
  have key : ∀ a b, alikeC cl a b = true ↔ (a < 0 ↔ b < 0) ∧ (a < 0 ∨ cl.getD a.toNat 0 = cl.getD b.toNat 0) := fun a b => by
    unfold alikeC
    simp only [Bool.and_eq_true, Bool.or_eq_true, decide_eq_true_eq, eq_iff_iff]
  refine ⟨fun a => (key a a).2 ⟨Iff.rfl, .inr rfl⟩, fun a b h => ?_, fun a b c h g => ?_⟩
  · obtain ⟨h1, h2⟩ := (key a b).1 h
    refine (key b a).2 ⟨h1.symm, ?_⟩
    rcases h2 with h2 | h2
    · exact .inl (h1.1 h2)
    · exact .inr h2.symm
  · obtain ⟨h1, h2⟩ := (key a b).1 h
    obtain ⟨g1, g2⟩ := (key b c).1 g
    refine (key a c).2 ⟨h1.trans g1, ?_⟩
    rcases h2 with h2 | h2
    · exact .inl h2
    · rcases g2 with g2 | g2
      · exact .inl (h1.2 g2)
      · exact .inr (h2.trans g2)
theorem alikeB_eqv (nx : List (List Int)) (cl : List Int) : EqvB (alikeB nx cl) := by
  have key : ∀ i k, alikeB nx cl i k = true ↔ cl.getD i 0 = cl.getD k 0 ∧ ∀ c, c < 256 → alikeC cl (cellI nx i c) (cellI nx k c) = true := fun i k => by
    unfold alikeB
    rw [Bool.and_eq_true, List.all_eq_true, decide_eq_true_eq]
    constructor
    · rintro ⟨a, b⟩; exact ⟨a, fun c hc => b c (by simpa using hc)⟩
    · rintro ⟨a, b⟩; exact ⟨a, fun c hc => b c (by simpa using hc)⟩
  obtain ⟨e1, e2, e3⟩ := alikeC_eqv cl
  refine ⟨fun i => (key i i).2 ⟨rfl, fun c _ => e1 _⟩, fun i k h => ?_, fun i j k h g => ?_⟩
  · obtain ⟨a, b⟩ := (key i k).1 h
    exact (key k i).2 ⟨a.symm, fun c hc => e2 _ _ (b c hc)⟩
  · obtain ⟨a, b⟩ := (key i j).1 h
    obtain ⟨c, d⟩ := (key j k).1 g
    exact (key i k).2 ⟨a.trans c, fun q hq => e3 _ _ _ (b q hq) (d q hq)⟩
def sameI (cl : List Int) (j k : Nat) : Bool := decide (cl.getD j 0 = cl.getD k 0)
theorem sameI_eqv (cl : List Int) : EqvB (sameI cl) := ⟨fun i => by simp [sameI], fun i k h => by simp [sameI] at *; exact h.symm, fun i j k h g => by simp [sameI] at *; exact h.trans g⟩
theorem alike_same {nx : List (List Int)} {cl : List Int} : ∀ i k, alikeB nx cl i k = true → sameI cl i k = true := fun i k h => by
  unfold alikeB at h
  rw [Bool.and_eq_true] at h
  exact h.1
/-- The numbers of states' classes, so far. -/
structure ClsOk (nx : List (List Int)) (cl L : List Int) (i : Nat) (cnt : Nat) : Prop where
  num : cnt = firstN (alikeB nx cl) i
  lo : ∀ j, j < i → 0 ≤ L.getD j 0 ∧ L.getD j 0 < (cnt : Int)
  iff : ∀ j k, j < i → k < i → (L.getD j 0 = L.getD k 0 ↔ alikeB nx cl j k = true)
theorem getD_set {L : List Int} {i j : Nat} {v : Int} (hi : i < L.length) : (L.set i v).getD j 0 = if i = j then v else L.getD j 0 := by
  rw [List.getD_eq_getElem?_getD, List.getD_eq_getElem?_getD, List.getElem?_set]
  by_cases h : i = j
  · subst h; rw [if_pos rfl, if_pos hi, if_pos rfl]; rfl
  · rw [if_neg h, if_neg h]
theorem cls_old {nx : List (List Int)} {cl L : List Int} {i cnt k : Nat} (h : ClsOk nx cl L i cnt) (hi : i < L.length) (hk : k < i) (ha : alikeB nx cl i k = true) : ClsOk nx cl (L.set i (L.getD k 0)) (i + 1) cnt := by
  have hE := alikeB_eqv nx cl
  have hg : ∀ j, j < i → (L.set i (L.getD k 0)).getD j 0 = L.getD j 0 := fun j hj => by rw [getD_set hi, if_neg (by omega)]
  have hgi : (L.set i (L.getD k 0)).getD i 0 = L.getD k 0 := by rw [getD_set hi, if_pos rfl]
  have hno : (List.range i).all (fun k => !alikeB nx cl i k) = false := by
    rw [List.all_eq_false]
    exact ⟨k, by simpa using hk, by simp [ha]⟩
  refine ⟨by rw [firstN_succ, hno]; simpa using h.num, fun j hj => ?_, fun j q hj hq => ?_⟩
  · by_cases hji : j = i
    · rw [hji, hgi]; exact h.lo k hk
    · rw [hg j (by omega)]; exact h.lo j (by omega)
  · by_cases hji : j = i
    · by_cases hqi : q = i
      · rw [hji, hqi]; exact ⟨fun _ => hE.refl i, fun _ => rfl⟩
      · rw [hji, hgi, hg q (by omega), h.iff k q hk (by omega)]
        exact ⟨fun e => hE.trans _ _ _ ha e, fun e => hE.trans _ _ _ (hE.symm _ _ ha) e⟩
    · by_cases hqi : q = i
      · rw [hqi, hgi, hg j (by omega), h.iff j k (by omega) hk]
        exact ⟨fun e => hE.trans _ _ _ e (hE.symm _ _ ha), fun e => hE.trans _ _ _ e ha⟩
      · rw [hg j (by omega), hg q (by omega)]; exact h.iff j q (by omega) (by omega)
theorem cls_new {nx : List (List Int)} {cl L : List Int} {i cnt : Nat} (h : ClsOk nx cl L i cnt) (hi : i < L.length) (ha : ∀ k, k < i → alikeB nx cl i k = false) : ClsOk nx cl (L.set i cnt) (i + 1) (cnt + 1) := by
  have hE := alikeB_eqv nx cl
  have hg : ∀ j, j < i → (L.set i cnt).getD j 0 = L.getD j 0 := fun j hj => by rw [getD_set hi, if_neg (by omega)]
  have hgi : (L.set i cnt).getD i 0 = cnt := by rw [getD_set hi, if_pos rfl]
  refine ⟨by rw [firstN_succ, first_none.2 ha, if_pos rfl, h.num], fun j hj => ?_, fun j q hj hq => ?_⟩
  · by_cases hji : j = i
    · rw [hji, hgi]; omega
    · rw [hg j (by omega)]; have := h.lo j (by omega); omega
  · by_cases hji : j = i
    · by_cases hqi : q = i
      · rw [hji, hqi]; exact ⟨fun _ => hE.refl i, fun _ => rfl⟩
      · rw [hji, hgi, hg q (by omega)]
        have h1 := h.lo q (by omega)
        have h2 := ha q (by omega)
        rw [h2]
        exact ⟨fun e => by omega, fun e => by cases e⟩
    · by_cases hqi : q = i
      · rw [hqi, hgi, hg j (by omega)]
        have h1 := h.lo j (by omega)
        have h2 := ha j (by omega)
        refine ⟨fun e => by omega, fun e => ?_⟩
        rw [hE.symm _ _ e] at h2; cases h2
      · rw [hg j (by omega), hg q (by omega)]; exact h.iff j q (by omega) (by omega)
theorem cls_zero (nx : List (List Int)) (cl L : List Int) : ClsOk nx cl L 0 0 := ⟨rfl, fun j hj => absurd hj (Nat.not_lt_zero j), fun j k hj => absurd hj (Nat.not_lt_zero j)⟩
/-- Classes that only hold what accepts the same. -/
def Finer (ac cl : List Int) : Prop := ∀ i k, i < ac.length → k < ac.length → cl.getD i 0 = cl.getD k 0 → ac.getD i 0 = ac.getD k 0
theorem cls_parts {nx : List (List Int)} {cl L : List Int} {cnt : Nat} (h : ClsOk nx cl L L.length cnt) : partsF L = cnt := by
  rw [parts_first, h.num]
  refine firstN_congr fun j k hj hk => ?_
  rw [Bool.eq_iff_iff, decide_eq_true_eq]
  exact h.iff j k hj (by omega)
theorem cls_ge {nx : List (List Int)} {cl L : List Int} {cnt : Nat} (hl : cl.length = L.length) (h : ClsOk nx cl L L.length cnt) : partsF cl ≤ cnt := by
  rw [parts_first, h.num, hl]
  exact firstN_mono fun i k e => alike_same i k e
theorem cls_finer {nx : List (List Int)} {ac cl L : List Int} {cnt : Nat} (hl : L.length = ac.length) (h : ClsOk nx cl L L.length cnt) (hf : Finer ac cl) : Finer ac L := fun i k hi hk e => by
  have := alike_same i k ((h.iff i k (by omega) (by omega)).1 e)
  exact hf i k hi hk (by simpa [sameI] using this)
theorem cls_done {nx : List (List Int)} {ac cl L : List Int} {cnt : Nat} (hr : RwOk nx ac) (hl : L.length = ac.length) (hcl : cl.length = ac.length) (h : ClsOk nx cl L L.length cnt) (hf : Finer ac cl) (he : partsF cl = cnt) : ClOk nx ac L := by
  have hsame : ∀ i k, i < ac.length → k < ac.length → cl.getD i 0 = cl.getD k 0 → alikeB nx cl i k = true := fun i k hi hk e => by
    refine same_classes (n := ac.length) (sameI_eqv cl) (alikeB_eqv nx cl) alike_same ?_ hi hk (by simpa [sameI] using e)
    have h1 := parts_first cl
    rw [hcl] at h1
    have h2 := h.num
    rw [hl] at h2
    show firstN (fun j k => decide (cl.getD j 0 = cl.getD k 0)) ac.length = _
    omega
  refine ⟨hl, cls_finer hl h hf, fun i k hi hk e c hc => ?_⟩
  have ha := (h.iff i k (by omega) (by omega)).1 e
  unfold alikeB at ha
  rw [Bool.and_eq_true, List.all_eq_true] at ha
  have hac := ha.2 c (by simpa using hc)
  unfold alikeC at hac
  simp only [Bool.and_eq_true, Bool.or_eq_true, decide_eq_true_eq, eq_iff_iff] at hac
  obtain ⟨_, _, _, _, a1, a2⟩ := hr.at (show i < nx.length by rw [hr.len]; exact hi) hc
  obtain ⟨_, _, _, _, b1, b2⟩ := hr.at (show k < nx.length by rw [hr.len]; exact hk) hc
  have hnl := hr.len
  refine ⟨hac.1, fun h0 => ?_⟩
  have hb0 : ¬ cellI nx k c < 0 := fun e => by have := hac.1.2 e; omega
  rcases hac.2 with h2 | h2
  · omega
  · exact (h.iff _ _ (by omega) (by omega)).2 (hsame _ _ (by omega) (by omega) h2)
end Go.Proofs.Ytobpbelgihilpaa.Ab
/- Chapter 5: the reference's classes: the walk. No condition. -/
set_option linter.unusedVariables false
set_option linter.unusedSimpArgs false
namespace Go.Proofs.Ytobpbelgihilpaa.Ab
attribute [local irreducible] thenA inBlockA ACode AOps put IntKind.wrap

theorem ints_own {l : List Int} {j : Nat} {x : Int} (h : l[j]? = some x) : (ints l)[j * 1]? = some (A.int .i64 x) := by rw [Nat.mul_one]; exact ints_get h
theorem getD_at {l : List Int} {j : Nat} (h : j < l.length) : l[j]? = some (l.getD j 0) := by rw [List.getD_eq_getElem?_getD, List.getElem?_eq_getElem h]; rfl
set_option maxHeartbeats 16000000 in
theorem sclasses_calls {nx : List (List Int)} {ac : List Int} (h : RwOk nx ac) (m : Bool) (M : List Ob) : ACalls Try.prog 18 [.agg (rawC nx ac m)] M (fun r M' => (∃ cl, ClOk nx ac cl ∧ r = .psl cl.length (ints cl)) ∧ M' = M) := by
  have hn := h.n
  have hln := h.len
  obtain ⟨n, hac⟩ : ∃ n, ac.length = n := ⟨_, rfl⟩
  refine acalls_of_code 80 Try.func18 rfl rfl rfl ?_
  repeat (first | refine acode_seq ?_ | refine acode_region ?_)
  refine aops_boxf rfl rfl rfl rfl rfl rfl rfl ?_
  repeat (first | refine aops_end ?_ | refine aops_p tok rfl rfl rfl rfl ?_ | refine acode_seq ?_ | refine acode_region ?_)
  refine aops_mk tok ac.length rfl rfl rfl rfl rfl rfl (by show _ * 8 ≤ _; omega) (by omega) rfl rfl rfl fun b4 => ?_
  repeat (refine aops_p tok rfl rfl rfl rfl ?_)
  refine aops_end ?_
  refine acode_seq ?_
  refine acode_joinI (ι := List Int) (fun L => [(1, .pp (rawC nx ac m)), (3, .int .i64 ac.length), (4, .own (some b4) ac.length ac.length)]) (fun L => ⟨some b4, ac.length * 1, ints L⟩ :: M) (fun L => L.length = ac.length ∧ Finer ac L) ?_ ?_
  · repeat (first | refine aops_end ?_ | refine aops_p tok rfl rfl rfl rfl ?_ | refine acode_seq ?_ | refine acode_region ?_ | refine acode_block ?_)
    refine acode_loopS (ι := Nat × List Int) (fun q => [(1, .pp (rawC nx ac m)), (3, .int .i64 ac.length), (4, .own (some b4) ac.length ac.length), (5, .int .i64 q.1)]) (fun q => ⟨some b4, ac.length * 1, ints q.2⟩ :: M) (fun q => ac.length - q.1) (fun q => q.1 ≤ ac.length ∧ q.2.length = ac.length ∧ ∀ j, j < q.1 → q.2.getD j 0 = ac.getD j 0 + 1) (0, List.replicate ac.length 0) ⟨Nat.zero_le _, by simp, fun j hj => absurd hj (Nat.not_lt_zero j)⟩ ⟨rfl, rfl, rfl, rfl, trivial⟩ (by rw [← ints_zeros]; rfl) ?_
    rintro ⟨i, L⟩ ⟨hi, hL, hgo⟩
    simp only at hi hL hgo ⊢
    by_cases hil : i < ac.length
    · have hai := getD_at hil
      have hab := h.acc _ (List.mem_of_getElem? hai)
      have hgd : ∀ j, (L.set i (ac.getD i 0 + 1)).getD j 0 = if i = j then ac.getD i 0 + 1 else L.getD j 0 := fun j => getD_set (by omega)
      have hnext : ∀ j, j < i + 1 → (L.set i (ac.getD i 0 + 1)).getD j 0 = ac.getD j 0 + 1 := fun j hj => by
        rw [hgd]
        split
        · rename_i e; rw [e]
        · exact hgo j (by omega)
      clear hgd
      generalize ac.getD i 0 = a at *
      repeat' (first | refine aops_end ?_ | refine aops_pbt tok rfl (by first | omega | decide) rfl rfl rfl ?_ | refine aops_p tok rfl rfl rfl rfl ?_ | refine acode_it rfl ?_ | refine acode_seq ?_ | refine acode_region ?_ | refine acode_block ?_ | refine acode_skip ?_ | refine then_n ?_)
      all_goals try (exfalso; omega)
      refine aops_ix tok [.int .i64 a] rfl rfl rfl rfl (by omega) (by omega) (by simp) (ints_at (by simpa using hai)) rfl rfl rfl ?_
      repeat (first | refine aops_a tok rfl (by omega) (by omega) rfl rfl rfl ?_ | refine aops_p tok rfl rfl rfl rfl ?_)
      refine aops_ixo tok rfl rfl rfl rfl (by omega) (by omega) rfl rfl rfl ?_
      refine aops_stk tok 0 (ints (L.set i (a + 1))) (⟨some b4, ac.length * 1, ints (L.set i (a + 1))⟩ :: M) rfl rfl rfl rfl rfl rfl (by show _ * 1 + 1 ≤ _; rw [ints_len]; omega) (ints_set1 (j := ((i : Nat) : Int).toNat) (by omega) _) rfl rfl rfl ?_
      repeat (first | refine aops_end ?_ | refine aops_endb ?_ | refine aops_a tok rfl (by omega) (by omega) rfl rfl rfl ?_ | refine aops_p tok rfl rfl rfl rfl ?_ | refine acode_region ?_ | refine then_n ?_)
      exact ⟨(i + 1, L.set i (a + 1)), ⟨by simp only; omega, by simpa using hL, hnext⟩, by simp only; omega, ⟨rfl, rfl, rfl, rfl, trivial⟩, rfl⟩
    · obtain rfl : i = ac.length := by omega
      repeat' (first | refine aops_end ?_ | refine aops_pbf tok rfl (by first | omega | decide) rfl rfl rfl ?_ | refine aops_p tok rfl rfl rfl rfl ?_ | refine acode_if rfl ?_ | refine acode_seq ?_ | refine acode_region ?_)
      all_goals try (exfalso; omega)
      refine acode_exit ?_
      repeat (first | refine exit_then ?_ | refine exit_here ?_ | refine then_n ?_)
      exact ⟨L, ⟨hL, fun j k hj hk e => by rw [hgo j hj, hgo k hk] at e; omega⟩, ⟨rfl, rfl, rfl, trivial⟩, rfl⟩
  rintro L0 ⟨hL0, hF0⟩
  refine acode_pub0 4 1 rfl rfl (by rw [ints_len, hL0, Nat.mul_one]) rfl ?_
  repeat (refine acode_block ?_)
  refine acode_loopS (ι := List Int) (fun cl => [(1, .pp (rawC nx ac m)), (3, .int .i64 ac.length), (4, .psl ac.length (ints cl))]) (fun _ => M) (fun cl => ac.length + 1 - partsF cl) (fun cl => cl.length = ac.length ∧ Finer ac cl) L0 ⟨hL0, hF0⟩ ⟨rfl, rfl, rfl, trivial⟩ rfl ?_
  rintro cl ⟨hcl, hfi⟩
  have hpl : partsF cl ≤ ac.length := by rw [parts_first, ← hcl]; exact firstN_le _ _
  have hpc := fun M => sparts_calls (l := cl) (by omega) M
  rw [hcl] at hpc
  have hal := fun i k (hi : i < nx.length) (hk : k < nx.length) M => salike_calls (cl := cl) h (by omega) hi hk m M
  rw [hcl] at hal
  repeat (first | refine aops_p tok rfl rfl rfl rfl ?_ | refine acode_seq ?_ | refine acode_region ?_ | refine acode_block ?_)
  refine aops_mk tok ac.length rfl rfl rfl rfl rfl rfl (by show _ * 8 ≤ _; omega) (by omega) rfl rfl rfl fun b6 => ?_
  repeat (refine aops_p tok rfl rfl rfl rfl ?_)
  refine aops_end ?_
  refine acode_seq ?_
  refine acode_region ?_
  repeat (refine aops_p tok rfl rfl rfl rfl ?_)
  refine aops_end ?_
  refine acode_seq ?_
  refine acode_joinI (ι := List Int × Nat) (fun q => [(1, .pp (rawC nx ac m)), (3, .int .i64 ac.length), (4, .psl ac.length (ints cl)), (6, .own (some b6) ac.length ac.length), (7, .int .i64 q.2)]) (fun q => ⟨some b6, ac.length * 1, ints q.1⟩ :: M) (fun q => q.1.length = ac.length ∧ ClsOk nx cl q.1 ac.length q.2) ?_ ?_
  · repeat (first | refine aops_end ?_ | refine aops_p tok rfl rfl rfl rfl ?_ | refine acode_seq ?_ | refine acode_region ?_ | refine acode_block ?_)
    refine acode_loopS (ι := Nat × List Int × Nat) (fun q => [(1, .pp (rawC nx ac m)), (3, .int .i64 ac.length), (4, .psl ac.length (ints cl)), (6, .own (some b6) ac.length ac.length), (7, .int .i64 q.2.2), (8, .int .i64 q.1)]) (fun q => ⟨some b6, ac.length * 1, ints q.2.1⟩ :: M) (fun q => ac.length - q.1) (fun q => q.1 ≤ ac.length ∧ q.2.1.length = ac.length ∧ ClsOk nx cl q.2.1 q.1 q.2.2) (0, List.replicate ac.length 0, 0) ⟨Nat.zero_le _, by simp, cls_zero _ _ _⟩ ⟨rfl, rfl, rfl, rfl, rfl, rfl, trivial⟩ (by rw [← ints_zeros]; rfl) ?_
    rintro ⟨i, L, cnt⟩ ⟨hi, hL, hC⟩
    simp only at hi hL hC ⊢
    have hcn : cnt ≤ i := by rw [hC.num]; exact firstN_le _ _
    by_cases hil : i < ac.length
    · repeat' (first | refine aops_end ?_ | refine aops_pbt tok rfl (by first | omega | decide) rfl rfl rfl ?_ | refine aops_p tok rfl rfl rfl rfl ?_ | refine acode_it rfl ?_ | refine acode_seq ?_ | refine acode_region ?_ | refine acode_block ?_ | refine acode_skip ?_ | refine then_n ?_)
      all_goals try (exfalso; omega)
      refine aops_ixo tok rfl rfl rfl rfl (by omega) (by omega) rfl rfl rfl ?_
      refine aops_stk tok 0 (ints (L.set i (-1))) (⟨some b6, ac.length * 1, ints (L.set i (-1))⟩ :: M) rfl rfl rfl rfl rfl rfl (by show _ * 1 + 1 ≤ _; rw [ints_len]; omega) (ints_set1 (j := ((i : Nat) : Int).toNat) (by omega) _) rfl rfl rfl ?_
      skip
      refine aops_end ?_
      refine acode_seq ?_
      refine acode_joinI (ι := Int) (fun v => [(1, .pp (rawC nx ac m)), (3, .int .i64 ac.length), (4, .psl ac.length (ints cl)), (6, .own (some b6) ac.length ac.length), (7, .int .i64 cnt), (8, .int .i64 i)]) (fun v => ⟨some b6, ac.length * 1, ints (L.set i v)⟩ :: M) (fun v => (v = -1 ∧ ∀ j, j < i → alikeB nx cl i j = false) ∨ ∃ j, j < i ∧ alikeB nx cl i j = true ∧ v = L.getD j 0) ?_ ?_
      · repeat (first | refine aops_end ?_ | refine aops_p tok rfl rfl rfl rfl ?_ | refine acode_seq ?_ | refine acode_region ?_ | refine acode_block ?_)
        refine acode_loopS (ι := Nat × Int) (fun q => [(1, .pp (rawC nx ac m)), (3, .int .i64 ac.length), (4, .psl ac.length (ints cl)), (6, .own (some b6) ac.length ac.length), (7, .int .i64 cnt), (8, .int .i64 i), (9, .int .i64 q.1)]) (fun q => ⟨some b6, ac.length * 1, ints (L.set i q.2)⟩ :: M) (fun q => i - q.1) (fun q => q.1 ≤ i ∧ ((q.2 = -1 ∧ ∀ j, j < q.1 → alikeB nx cl i j = false) ∨ ∃ j, j < i ∧ alikeB nx cl i j = true ∧ q.2 = L.getD j 0)) (0, -1) ⟨Nat.zero_le _, .inl ⟨rfl, fun j hj => absurd hj (Nat.not_lt_zero j)⟩⟩ ⟨rfl, rfl, rfl, rfl, rfl, rfl, rfl, trivial⟩ rfl ?_
        rintro ⟨k, v⟩ ⟨hk, hv⟩
        simp only at hk hv ⊢
        have hvi : (L.set i v)[i]? = some v := by rw [List.getElem?_set, if_pos rfl, if_pos (by omega)]
        by_cases hki : k < i
        · rcases hv with ⟨rfl, hv⟩ | ⟨j, hj1, hj2, rfl⟩
          · have hac := hal i k (by omega) (by omega)
            have hLk : (L.set i (-1))[k]? = some (L.getD k 0) := by rw [List.getElem?_set, if_neg (by omega)]; exact getD_at (by omega)
            repeat' (first | refine aops_pbt tok rfl (by first | omega | decide) rfl rfl rfl ?_ | refine aops_p tok rfl rfl rfl rfl ?_ | refine acode_seq ?_ | refine acode_region ?_)
            all_goals try (exfalso; omega)
            refine aops_ixo tok rfl rfl rfl rfl (by omega) (by omega) rfl rfl rfl ?_
            refine aops_ld tok 0 (y := .int .i64 (-1)) rfl rfl rfl rfl (by rw [headed_eq]; exact ints_own (j := i) hvi) rfl rfl rfl ?_
            repeat' (first | refine aops_end ?_ | refine aops_pbt tok rfl (by first | omega | decide) rfl rfl rfl ?_ | refine aops_p tok rfl rfl rfl rfl ?_ | refine acode_it rfl ?_ | refine acode_seq ?_ | refine acode_region ?_ | refine acode_block ?_ | refine acode_skip ?_ | refine then_n ?_)
            all_goals try (exfalso; omega)
            refine aops_callx Try.func30 rfl rfl rfl rfl (hac _) rfl rfl rfl ?_
            cases ha : alikeB nx cl i k with
            | true =>
              have hss : (L.set i (-1)).set i (L.getD k 0) = L.set i (L.getD k 0) := List.set_set ..
              repeat' (first | refine aops_end ?_ | refine aops_p tok rfl rfl rfl rfl ?_ | refine acode_it rfl ?_ | refine acode_region ?_)
              refine aops_ixo tok rfl rfl rfl rfl (by omega) (by omega) rfl rfl rfl ?_
              refine aops_ld tok 0 (y := .int .i64 (L.getD k 0)) rfl rfl rfl rfl (by rw [headed_eq]; exact ints_own (j := k) hLk) rfl rfl rfl ?_
              skip
              refine aops_ixo tok rfl rfl rfl rfl (by omega) (by omega) rfl rfl rfl ?_
              refine aops_stk tok 0 (ints (L.set i (L.getD k 0))) (⟨some b6, ac.length * 1, ints (L.set i (L.getD k 0))⟩ :: M) rfl rfl rfl rfl rfl rfl (by show _ * 1 + 1 ≤ _; rw [ints_len, List.length_set]; omega) (by rw [← hss]; exact ints_set1 (j := ((i : Nat) : Int).toNat) (by rw [List.length_set]; omega) _) rfl rfl rfl ?_
              repeat (first | refine aops_end ?_ | refine aops_endb ?_ | refine aops_a tok rfl (by omega) (by omega) rfl rfl rfl ?_ | refine aops_p tok rfl rfl rfl rfl ?_ | refine acode_region ?_ | refine then_n ?_)
              exact ⟨(k + 1, L.getD k 0), ⟨by simp only; omega, .inr ⟨k, hki, ha, rfl⟩⟩, by simp only; omega, ⟨rfl, rfl, rfl, rfl, rfl, rfl, rfl, trivial⟩, rfl⟩
            | false =>
              repeat' (first | refine aops_end ?_ | refine aops_a tok rfl (by omega) (by omega) rfl rfl rfl ?_ | refine aops_p tok rfl rfl rfl rfl ?_ | refine acode_if rfl ?_ | refine acode_region ?_ | refine acode_skip ?_ | refine then_n ?_ | refine block_n ?_)
              refine ⟨(k + 1, -1), ⟨by simp only; omega, .inl ⟨rfl, fun j hj => ?_⟩⟩, by simp only; omega, ⟨rfl, rfl, rfl, rfl, rfl, rfl, rfl, trivial⟩, rfl⟩
              by_cases hjk : j = k
              · rw [hjk]; exact ha
              · exact hv j (by simp only at hj; omega)
          · have hlo := hC.lo j hj1
            generalize hx : L.getD j 0 = x at *
            repeat' (first | refine aops_pbt tok rfl (by first | omega | decide) rfl rfl rfl ?_ | refine aops_p tok rfl rfl rfl rfl ?_ | refine acode_seq ?_ | refine acode_region ?_)
            all_goals try (exfalso; omega)
            refine aops_ixo tok rfl rfl rfl rfl (by omega) (by omega) rfl rfl rfl ?_
            refine aops_ld tok 0 (y := .int .i64 x) rfl rfl rfl rfl (by rw [headed_eq]; exact ints_own (j := i) hvi) rfl rfl rfl ?_
            repeat' (first | refine aops_end ?_ | refine aops_pbf tok rfl (by first | omega | decide) rfl rfl rfl ?_ | refine aops_p tok rfl rfl rfl rfl ?_ | refine acode_if rfl ?_)
            all_goals try (exfalso; omega)
            refine acode_exit ?_
            repeat (first | refine exit_then ?_ | refine exit_here ?_ | refine then_n ?_)
            exact ⟨x, .inr ⟨j, hj1, hj2, hx.symm⟩, ⟨rfl, rfl, rfl, rfl, rfl, rfl, trivial⟩, rfl⟩
        · obtain rfl : k = i := by omega
          repeat' (first | refine aops_end ?_ | refine aops_o rfl rfl rfl ?_ | refine aops_pbf tok rfl (by first | omega | decide) rfl rfl rfl ?_ | refine aops_p tok rfl rfl rfl rfl ?_ | refine acode_if rfl ?_ | refine acode_seq ?_ | refine acode_region ?_)
          all_goals try (exfalso; omega)
          refine acode_exit ?_
          repeat (first | refine exit_then ?_ | refine exit_here ?_ | refine then_n ?_)
          exact ⟨v, hv, ⟨rfl, rfl, rfl, rfl, rfl, rfl, trivial⟩, rfl⟩
      rintro v hv
      have hvi : (L.set i v)[i]? = some v := by rw [List.getElem?_set, if_pos rfl, if_pos (by omega)]
      rcases hv with ⟨rfl, hv⟩ | ⟨j, hj1, hj2, rfl⟩
      · have hss : (L.set i (-1)).set i (cnt : Int) = L.set i cnt := List.set_set ..
        have hC2 := cls_new hC (by omega) hv
        repeat' (first | refine aops_p tok rfl rfl rfl rfl ?_ | refine acode_seq ?_ | refine acode_region ?_)
        all_goals try (exfalso; omega)
        refine aops_ixo tok rfl rfl rfl rfl (by omega) (by omega) rfl rfl rfl ?_
        refine aops_ld tok 0 (y := .int .i64 (-1)) rfl rfl rfl rfl (by rw [headed_eq]; exact ints_own (j := i) hvi) rfl rfl rfl ?_
        repeat' (first | refine aops_end ?_ | refine aops_pbt tok rfl (by first | omega | decide) rfl rfl rfl ?_ | refine aops_p tok rfl rfl rfl rfl ?_ | refine acode_it rfl ?_ | refine acode_seq ?_ | refine acode_region ?_)
        all_goals try (exfalso; omega)
        refine aops_ixo tok rfl rfl rfl rfl (by omega) (by omega) rfl rfl rfl ?_
        refine aops_stk tok 0 (ints (L.set i (cnt : Int))) (⟨some b6, ac.length * 1, ints (L.set i (cnt : Int))⟩ :: M) rfl rfl rfl rfl rfl rfl (by show _ * 1 + 1 ≤ _; rw [ints_len, List.length_set]; omega) (by rw [← hss]; exact ints_set1 (j := ((i : Nat) : Int).toNat) (by rw [List.length_set]; omega) _) rfl rfl rfl ?_
        repeat (first | refine aops_end ?_ | refine aops_endb ?_ | refine aops_a tok rfl (by omega) (by omega) rfl rfl rfl ?_ | refine aops_p tok rfl rfl rfl rfl ?_ | refine acode_region ?_ | refine then_n ?_)
        exact ⟨(i + 1, L.set i cnt, cnt + 1), ⟨by simp only; omega, by simpa using hL, hC2⟩, by simp only; omega, ⟨rfl, rfl, rfl, rfl, rfl, rfl, trivial⟩, rfl⟩
      · have hlo := hC.lo j hj1
        have hC2 := cls_old hC (by omega) hj1 hj2
        generalize hx : L.getD j 0 = x at *
        repeat' (first | refine aops_p tok rfl rfl rfl rfl ?_ | refine acode_seq ?_ | refine acode_region ?_)
        all_goals try (exfalso; omega)
        refine aops_ixo tok rfl rfl rfl rfl (by omega) (by omega) rfl rfl rfl ?_
        refine aops_ld tok 0 (y := .int .i64 x) rfl rfl rfl rfl (by rw [headed_eq]; exact ints_own (j := i) hvi) rfl rfl rfl ?_
        repeat' (first | refine aops_end ?_ | refine aops_a tok rfl (by omega) (by omega) rfl rfl rfl ?_ | refine aops_pbf tok rfl (by first | omega | decide) rfl rfl rfl ?_ | refine aops_p tok rfl rfl rfl rfl ?_ | refine acode_if rfl ?_ | refine acode_region ?_ | refine acode_skip ?_ | refine then_n ?_ | refine block_n ?_)
        all_goals try (exfalso; omega)
        exact ⟨(i + 1, L.set i x, cnt), ⟨by simp only; omega, by simpa using hL, hC2⟩, by simp only; omega, ⟨rfl, rfl, rfl, rfl, rfl, rfl, trivial⟩, rfl⟩
    · obtain rfl : i = ac.length := by omega
      repeat' (first | refine aops_end ?_ | refine aops_pbf tok rfl (by first | omega | decide) rfl rfl rfl ?_ | refine aops_p tok rfl rfl rfl rfl ?_ | refine acode_if rfl ?_ | refine acode_seq ?_ | refine acode_region ?_)
      all_goals try (exfalso; omega)
      refine acode_exit ?_
      repeat (first | refine exit_then ?_ | refine exit_here ?_ | refine then_n ?_)
      exact ⟨(L, cnt), ⟨hL, hC⟩, ⟨rfl, rfl, rfl, rfl, rfl, trivial⟩, rfl⟩
  rintro ⟨L, cnt⟩ ⟨hL, hC⟩
  simp only at hL hC ⊢
  have hC' := hC
  rw [← hL] at hC'
  have hge := cls_ge (by omega) hC'
  have hpL := cls_parts hC'
  have hcn : cnt ≤ ac.length := by rw [hC.num]; exact firstN_le _ _
  refine acode_pub0 6 1 rfl rfl (by rw [ints_len, hL, Nat.mul_one]) rfl ?_
  repeat (first | refine aops_p tok rfl rfl rfl rfl ?_ | refine acode_seq ?_ | refine acode_region ?_)
  refine aops_callx Try.func31 rfl rfl rfl rfl (hpc _) rfl rfl rfl ?_
  by_cases he : partsF cl = cnt
  · have hdone := cls_done h hL hcl hC' hfi he
    repeat' (first | refine aops_end ?_ | refine aops_pbt tok rfl (by first | omega | decide) rfl rfl rfl ?_ | refine aops_p tok rfl rfl rfl rfl ?_ | refine acode_it rfl ?_ | refine acode_seq ?_ | refine acode_region ?_)
    all_goals try (exfalso; omega)
    refine acode_ret ?_
    repeat (first | refine ret_then ?_ | refine ret_block ?_)
    exact ⟨_, ⟨⟨L, hdone, rfl⟩, rfl⟩, resOf_tmp (by rw [hL]; rfl)⟩
  · have hfin := cls_finer hL hC' hfi
    repeat' (first | refine aops_end ?_ | refine aops_endb ?_ | refine aops_pbf tok rfl (by first | omega | decide) rfl rfl rfl ?_ | refine aops_p tok rfl rfl rfl rfl ?_ | refine acode_if rfl ?_ | refine acode_region ?_ | refine acode_skip ?_ | refine then_n ?_)
    all_goals try (exfalso; omega)
    refine ⟨L, ⟨hL, hfin⟩, by omega, ⟨rfl, rfl, rfl, trivial⟩, rfl⟩
end Go.Proofs.Ytobpbelgihilpaa.Ab
/- Chapter 5 in plain terms: the rows of spots that are come to, one after the other. No condition. -/
set_option linter.unusedVariables false
set_option linter.unusedSimpArgs false
namespace Go.Proofs.Ytobpbelgihilpaa.Ab

def CellOk (ps : List Ps) (all : List (List Sp)) (cur : List Sp) (c : Nat) (v : Int) : Prop := (stepS ps cur c = [] ∧ v = -1) ∨ (stepS ps cur c ≠ [] ∧ ∃ k : Nat, v = k ∧ all[k]? = some (stepS ps cur c))
theorem CellOk.more {ps : List Ps} {all : List (List Sp)} {cur : List Sp} {c : Nat} {v : Int} (x : List Sp) (h : CellOk ps all cur c v) : CellOk ps (all ++ [x]) cur c v := by
  rcases h with h | ⟨h1, k, h2, h3⟩
  · exact .inl h
  · refine .inr ⟨h1, k, h2, ?_⟩
    rw [List.getElem?_append_left (List.getElem?_eq_some_iff.1 h3).1]; exact h3
theorem CellOk.lo {ps : List Ps} {all : List (List Sp)} {cur : List Sp} {c : Nat} {v : Int} (h : CellOk ps all cur c v) : -1 ≤ v ∧ v < (all.length : Int) ∨ v = -1 := by
  rcases h with h | ⟨h1, k, h2, h3⟩
  · exact .inr h.2
  · left
    have := (List.getElem?_eq_some_iff.1 h3).1
    omega
structure RowI (ps : List Ps) (all : List (List Sp)) (cur : List Sp) (L : List Int) (c : Nat) : Prop where
  len : L.length = 256
  ok : ∀ d, d < c → CellOk ps all cur d (L.getD d (-1))
theorem getD_setm {L : List Int} {i j : Nat} {v : Int} (hi : i < L.length) : (L.set i v).getD j (-1) = if i = j then v else L.getD j (-1) := by
  rw [List.getD_eq_getElem?_getD, List.getD_eq_getElem?_getD, List.getElem?_set]
  by_cases h : i = j
  · subst h; rw [if_pos rfl, if_pos hi, if_pos rfl]; rfl
  · rw [if_neg h, if_neg h]
theorem RowI.step {ps : List Ps} {all : List (List Sp)} {cur : List Sp} {L : List Int} {c : Nat} {v : Int} (h : RowI ps all cur L c) (hc : c < 256) (hv : CellOk ps all cur c v) : RowI ps all cur (L.set c v) (c + 1) := ⟨by rw [List.length_set]; exact h.len, fun d hd => by
  rw [getD_setm (by rw [h.len]; exact hc)]
  split
  · rename_i e; rw [← e]; exact hv
  · exact h.ok d (by omega)⟩
theorem RowI.more {ps : List Ps} {all : List (List Sp)} {cur : List Sp} {L : List Int} {c : Nat} (x : List Sp) (h : RowI ps all cur L c) : RowI ps (all ++ [x]) cur L c := ⟨h.len, fun d hd => (h.ok d hd).more x⟩
structure SubI (ps : List Ps) (all : List (List Sp)) (nx : List (List Int)) (ac : List Int) : Prop where
  zero : all[0]? = some (firstS ps.length)
  len : all.length ≤ 400
  ok : ∀ s ∈ all, SpOk ps s
  n2 : ac.length = nx.length
  le : nx.length ≤ all.length
  row : ∀ (i : Nat) (r : List Int), nx[i]? = some r → ∃ cur, all[i]? = some cur ∧ RowI ps all cur r 256
  acc : ∀ (i : Nat) (s : List Sp), i < nx.length → all[i]? = some s → ac.getD i 0 = acceptsF ps s
  aclo : ∀ v ∈ ac, -1 ≤ v ∧ v ≤ 40
theorem SubI.more {ps : List Ps} {all : List (List Sp)} {nx : List (List Int)} {ac : List Int} {x : List Sp} (h : SubI ps all nx ac) (hx : SpOk ps x) (hl : all.length < 400) : SubI ps (all ++ [x]) nx ac := by
  have hlt : ∀ (i : Nat), i < nx.length → (all ++ [x])[i]? = all[i]? := fun i hi => List.getElem?_append_left (by have := h.le; omega)
  refine ⟨?_, by rw [List.length_append, List.length_singleton]; omega, fun s hs => ?_, h.n2, by rw [List.length_append]; have := h.le; omega, fun i r hr => ?_, fun i s hi hs => ?_, h.aclo⟩
  · rw [List.getElem?_append_left (List.getElem?_eq_some_iff.1 h.zero).1]; exact h.zero
  · rcases List.mem_append.1 hs with hs | hs
    · exact h.ok s hs
    · rw [List.mem_singleton.1 hs]; exact hx
  · obtain ⟨cur, h1, h2⟩ := h.row i r hr
    exact ⟨cur, by rw [hlt i (List.getElem?_eq_some_iff.1 hr).1]; exact h1, h2.more x⟩
  · rw [hlt i hi] at hs; exact h.acc i s hi hs
theorem acceptsF_rng {ps : List Ps} {s : List Sp} (hp : AllOk ps) (hs : SpOk ps s) : -1 ≤ acceptsF ps s ∧ acceptsF ps s ≤ 40 := by
  rcases acceptsF_is (ps := ps) s hs.1 with ⟨h, _⟩ | ⟨z, hz, _, h, _⟩
  · omega
  · have := (hs.2 z hz).1
    have := hp.1
    omega
theorem SubI.next {ps : List Ps} {all : List (List Sp)} {nx : List (List Int)} {ac : List Int} {cur : List Sp} {L : List Int} (hp : AllOk ps) (h : SubI ps all nx ac) (hc : all[nx.length]? = some cur) (hL : RowI ps all cur L 256) : SubI ps all (nx ++ [L]) (ac ++ [acceptsF ps cur]) := by
  have hlt : nx.length < all.length := (List.getElem?_eq_some_iff.1 hc).1
  refine ⟨h.zero, h.len, h.ok, by simp [h.n2], by simp; omega, fun i r hr => ?_, fun i s hi hs => ?_, fun v hv => ?_⟩
  · by_cases hi : i < nx.length
    · rw [List.getElem?_append_left hi] at hr; exact h.row i r hr
    · have hi2 : i = nx.length := by
        have := (List.getElem?_eq_some_iff.1 hr).1
        rw [List.length_append, List.length_singleton] at this
        omega
      subst hi2
      rw [List.getElem?_append_right (Nat.le_refl _), Nat.sub_self] at hr
      simp only [List.getElem?_cons_zero, Option.some.injEq] at hr
      subst hr
      exact ⟨cur, hc, hL⟩
  · by_cases hi2 : i < nx.length
    · rw [List.getD_eq_getElem?_getD, List.getElem?_append_left (by rw [h.n2]; exact hi2), ← List.getD_eq_getElem?_getD]
      exact h.acc i s hi2 hs
    · have hi3 : i = nx.length := by
        rw [List.length_append, List.length_singleton] at hi
        omega
      subst hi3
      rw [hc] at hs
      cases hs
      rw [List.getD_eq_getElem?_getD, List.getElem?_append_right (by rw [h.n2]; exact Nat.le_refl _), h.n2, Nat.sub_self]; rfl
  · rcases List.mem_append.1 hv with hv | hv
    · exact h.aclo v hv
    · rw [List.mem_singleton.1 hv]
      exact acceptsF_rng hp (h.ok cur (List.mem_of_getElem? hc))
theorem SubI.done {ps : List Ps} {all : List (List Sp)} {nx : List (List Int)} {ac : List Int} (h : SubI ps all nx ac) (he : nx.length = all.length) : SubOk ps all nx ac ∧ RwOk nx ac := by
  have hcell : ∀ (i : Nat) (cur : List Sp), all[i]? = some cur → ∀ c, c < 256 → CellOk ps all cur c (cellI nx i c) := fun i cur hi c hc => by
    have hil : i < nx.length := by rw [he]; exact (List.getElem?_eq_some_iff.1 hi).1
    obtain ⟨cur', h1, h2⟩ := h.row i _ (List.getElem?_eq_getElem hil)
    rw [hi] at h1
    cases h1
    have := h2.ok c hc
    unfold cellI
    rw [List.getD_eq_getElem?_getD (l := nx), List.getElem?_eq_getElem hil]
    exact this
  refine ⟨⟨h.zero, he, by rw [h.n2, he], fun i r hr => ?_, fun i s hs => h.acc i s (by rw [he]; exact (List.getElem?_eq_some_iff.1 hs).1) hs, fun i s hs c hc => hcell i s hs c hc⟩, ⟨by rw [he]; exact h.len, h.n2.symm, fun i r hr => ?_, fun i r hr v hv => ?_, h.aclo⟩⟩
  · obtain ⟨_, _, h2⟩ := h.row i r hr; exact h2.len
  · obtain ⟨_, _, h2⟩ := h.row i r hr; exact h2.len
  · obtain ⟨cur, h1, h2⟩ := h.row i r hr
    obtain ⟨c, hc, rfl⟩ := List.mem_iff_getElem.1 hv
    have h3 := h2.ok c (by rw [← h2.len]; exact hc)
    rw [List.getD_eq_getElem?_getD, List.getElem?_eq_getElem hc, Option.getD_some] at h3
    have h4 : 0 < all.length := (List.getElem?_eq_some_iff.1 h.zero).1
    rcases h3.lo with h5 | h5 <;> omega
theorem firstS_ok {ps : List Ps} (n : Nat) (hn : n ≤ ps.length) : SpOk ps (firstS n) := ⟨firstS_rise n, fun z hz => by
  obtain ⟨i, hi, rfl⟩ := firstS_mem.1 hz
  exact ⟨⟨by simp only; omega, by simp only; omega⟩, .inl rfl⟩⟩
theorem firstS_succ (n : Nat) : firstS (n + 1) = addF (firstS n) ((n : Int), -1) := by
  unfold firstS
  rw [List.range_succ, List.foldl_append]; rfl
theorem SubI.begin {ps : List Ps} : SubI ps [firstS ps.length] [] [] := ⟨rfl, by simp, fun s hs => by rw [List.mem_singleton.1 hs]; exact firstS_ok _ (Nat.le_refl _), rfl, by simp, by simp, fun i s hi => absurd hi (Nat.not_lt_zero i), by simp⟩
end Go.Proofs.Ytobpbelgihilpaa.Ab
/- Chapter 5: the reference's subsets: the walk. No condition. -/
set_option linter.unusedVariables false
set_option linter.unusedSimpArgs false
namespace Go.Proofs.Ytobpbelgihilpaa.Ab
attribute [local irreducible] thenA inBlockA ACode AOps put IntKind.wrap

def spsC (s : List Sp) : List A := [.psl s.length (encs spC s)]
theorem spsC_len (s : List Sp) : (spsC s).length = 1 := rfl
theorem sps_get {all : List (List Sp)} {k : Nat} {s : List Sp} (h : all[k]? = some s) : (encs spsC all)[k * 1]? = some (.psl s.length (encs spC s)) := by
  have h1 : spsC s <+: (encs spsC all).drop (k * 1) := encs_at (e := spsC) (s := 1) (fun _ => rfl) (i := k) h
  obtain ⟨t, ht⟩ := h1
  have h2 : ((encs spsC all).drop (k * 1))[0]? = some (.psl s.length (encs spC s)) := by rw [← ht]; rfl
  rw [List.getElem?_drop] at h2
  simpa using h2
/-- The rows as slices of one's own, and what lies in each. -/
def ownX (rs : Nat → Nat) (n : Nat) : List A := (List.range n).map fun j => A.own (some (rs j)) 256 256
def obX (rs : Nat → Nat) (nx : List (List Int)) : List Ob := (List.range nx.length).map fun j => ⟨some (rs j), 256, ints (nx.getD j [])⟩
def upR (rs : Nat → Nat) (i b : Nat) : Nat → Nat := fun j => if j = i then b else rs j
theorem ownX_len (rs : Nat → Nat) (n : Nat) : (ownX rs n).length = n := by simp [ownX]
theorem ownX_add {rs : Nat → Nat} {n b : Nat} : ownX (upR rs n b) (n + 1) = ownX rs n ++ [.own (some b) 256 256] := by
  unfold ownX
  rw [List.range_succ, List.map_append]
  congr 1
  · refine List.map_congr_left fun j hj => ?_
    have : j ≠ n := by have := List.mem_range.1 hj; omega
    simp [upR, this]
  · simp [upR]
theorem obX_add {rs : Nat → Nat} {nx : List (List Int)} {b : Nat} {L : List Int} : obX (upR rs nx.length b) (nx ++ [L]) = obX rs nx ++ [⟨some b, 256, ints L⟩] := by
  unfold obX
  rw [List.length_append, List.length_singleton, List.range_succ, List.map_append]
  congr 1
  · refine List.map_congr_left fun j hj => ?_
    have h := List.mem_range.1 hj
    have h2 : j ≠ nx.length := by omega
    simp only [upR, if_neg h2]
    rw [List.getD_eq_getElem?_getD, List.getD_eq_getElem?_getD, List.getElem?_append_left h]
  · simp [upR]
theorem perm_row (r a w n c z : Ob) (T : List Ob) : (r :: a :: w :: n :: c :: z :: T).Perm (w :: n :: c :: a :: z :: r :: T) :=
  (List.perm_middle (l₁ := [a, w, n, c, z]) (a := r) (l₂ := T)).symm.trans (List.perm_middle (l₁ := [w, n, c]) (a := a) (l₂ := z :: r :: T)).symm
theorem perm_four (r a w n : Ob) (T : List Ob) : (r :: a :: w :: n :: T).Perm (n :: r :: a :: w :: T) := List.perm_middle (l₁ := [r, a, w])
structure SbQ where
  all : List (List Sp)
  nx : List (List Int)
  ac : List Int
  lb : Nat
  lc : Nat
  nb : Option Nat
  nc : Nat
  ab : Option Nat
  bc : Nat
  rs : Nat → Nat
abbrev rawO (b6 : Nat) (nb : Option Nat) (n nc : Nat) (ab : Option Nat) (m bc : Nat) (x : Bool) : Ob := ⟨some b6, 3, [.own nb n nc, .own ab m bc, .bool x]⟩
abbrev zraO (b : Nat) : Ob := ⟨some b, 3, [.nils, .nils, .bool false]⟩
def SubR (ps : List Ps) (M : List Ob) (r : A) (M' : List Ob) : Prop := (∃ nb n nc ab m bc, r = .agg [.own nb n nc, .own ab m bc, .bool true] ∧ M' = M) ∨
  ∃ all nx ac nb nc rs, SubOk ps all nx ac ∧ RwOk nx ac ∧ 0 < nx.length ∧ r = .agg [.own nb nx.length nc, .psl ac.length (ints ac), .bool false] ∧ M' = ⟨nb, nc * 1, ownX rs nx.length⟩ :: (obX rs nx ++ M)
set_option maxHeartbeats 32000000 in
theorem ssubsets_calls {ps : List Ps} (hp : AllOk ps) (M : List Ob) : ACalls Try.prog 16 [.psl ps.length (encs psC ps)] M (SubR ps M) := by
  have hpl := hp.1
  refine acalls_of_code 109 Try.func16 rfl rfl rfl ?_
  repeat (first | refine acode_seq ?_ | refine acode_region ?_)
  refine aops_alloc tok rfl rfl rfl rfl rfl rfl fun b2 => ?_
  skip
  refine aops_end ?_
  repeat (first | refine acode_seq ?_ | refine acode_region ?_)
  repeat (refine aops_p tok rfl rfl rfl rfl ?_)
  refine aops_softt 3 rfl ?_
  refine aops_end ?_
  refine acode_seq ?_
  refine acode_joinI (ι := Unit) (fun _ => [(0, .psl ps.length (encs psC ps)), (2, .ref b2 0), (3, .psl (firstS ps.length).length (encs spC (firstS ps.length)))]) (fun _ => zraO b2 :: M) (fun _ => True) ?_ ?_
  · repeat (first | refine aops_end ?_ | refine aops_p tok rfl rfl rfl rfl ?_ | refine acode_seq ?_ | refine acode_region ?_ | refine acode_block ?_)
    refine acode_loopS (ι := Nat) (fun i => [(0, .psl ps.length (encs psC ps)), (2, .ref b2 0), (3, .psl (firstS i).length (encs spC (firstS i))), (4, .int .i64 i)]) (fun _ => zraO b2 :: M) (fun i => ps.length - i) (fun i => i ≤ ps.length) 0 (Nat.zero_le _) ⟨rfl, rfl, rfl, rfl, trivial⟩ rfl ?_
    rintro i hi
    by_cases hil : i < ps.length
    · have hfl := spOk_len hp (firstS_ok i hi)
      have hadd := fun M => sadd_calls (l := firstS i) (s := ((i : Int), -1)) (by omega) M
      rw [← firstS_succ] at hadd
      repeat' (first | refine aops_end ?_ | refine aops_pbt tok rfl (by first | omega | decide) rfl rfl rfl ?_ | refine aops_p tok rfl rfl rfl rfl ?_ | refine acode_it rfl ?_ | refine acode_seq ?_ | refine acode_region ?_ | refine acode_block ?_ | refine acode_skip ?_ | refine then_n ?_)
      all_goals try (exfalso; omega)
      refine aops_callx Try.func26 rfl rfl rfl rfl (hadd _) rfl rfl rfl ?_
      repeat (first | refine aops_end ?_ | refine aops_endb ?_ | refine aops_a tok rfl (by omega) (by omega) rfl rfl rfl ?_ | refine aops_p tok rfl rfl rfl rfl ?_ | refine acode_region ?_ | refine then_n ?_)
      exact ⟨i + 1, by omega, by omega, ⟨rfl, rfl, rfl, rfl, trivial⟩, rfl⟩
    · obtain rfl : i = ps.length := by omega
      repeat' (first | refine aops_end ?_ | refine aops_pbf tok rfl (by first | omega | decide) rfl rfl rfl ?_ | refine aops_p tok rfl rfl rfl rfl ?_ | refine acode_if rfl ?_ | refine acode_seq ?_ | refine acode_region ?_)
      all_goals try (exfalso; omega)
      refine acode_exit ?_
      repeat (first | refine exit_then ?_ | refine exit_here ?_ | refine then_n ?_)
      exact ⟨(), trivial, ⟨rfl, rfl, rfl, trivial⟩, rfl⟩
  rintro - -
  repeat (first | refine aops_p tok rfl rfl rfl rfl ?_ | refine acode_seq ?_ | refine acode_region ?_)
  refine aops_lito1 tok (y := .psl (firstS ps.length).length (encs spC (firstS ps.length))) rfl rfl rfl rfl rfl rfl rfl rfl rfl fun lb0 => ?_
  repeat (first | refine aops_end ?_ | refine aops_p tok rfl rfl rfl rfl ?_ | refine acode_seq ?_ | refine acode_region ?_)
  refine aops_alloc tok rfl rfl rfl rfl rfl rfl fun b6 => ?_
  refine aops_adoptF 0 rfl rfl ?_
  refine aops_adoptF 1 rfl rfl ?_
  repeat (first | refine aops_end ?_ | refine aops_p tok rfl rfl rfl rfl ?_ | refine acode_seq ?_ | refine acode_region ?_ | refine acode_block ?_)
  refine acode_loopS (ι := SbQ) (fun q => [(0, .psl ps.length (encs psC ps)), (2, .ref b2 0), (5, .own (some q.lb) q.all.length q.lc), (6, .ref b6 0), (7, .int .i64 q.nx.length)])
    (fun q => rawO b6 q.nb q.nx.length q.nc q.ab q.ac.length q.bc false :: ⟨q.nb, q.nc * 1, ownX q.rs q.nx.length⟩ :: ⟨q.ab, q.bc * 1, ints q.ac⟩ :: ⟨some q.lb, q.lc * 1, encs spsC q.all⟩ :: zraO b2 :: (obX q.rs q.nx ++ M))
    (fun q => 401 - q.nx.length) (fun q => SubI ps q.all q.nx q.ac) ⟨[firstS ps.length], [], [], lb0, 1, none, 0, none, 0, fun _ => 0⟩ SubI.begin ⟨rfl, rfl, rfl, rfl, rfl, trivial⟩ rfl ?_
  rintro ⟨all, nx, ac, lb, lc, nb, nc, ab, bc, rs⟩ hI
  simp only at hI ⊢
  have hal := hI.len
  have hle := hI.le
  have hn2 := hI.n2
  by_cases hil : nx.length < all.length
  · obtain ⟨cur, hcur⟩ : ∃ cur, all[nx.length]? = some cur := ⟨_, List.getElem?_eq_getElem hil⟩
    have hcok := hI.ok cur (List.mem_of_getElem? hcur)
    repeat' (first | refine aops_end ?_ | refine aops_pbt tok rfl (by first | omega | decide) rfl rfl rfl ?_ | refine aops_p tok rfl rfl rfl rfl ?_ | refine acode_it rfl ?_ | refine acode_seq ?_ | refine acode_region ?_ | refine acode_block ?_ | refine acode_skip ?_ | refine then_n ?_)
    all_goals try (exfalso; omega)
    refine aops_mk tok 256 rfl rfl rfl rfl rfl rfl (by decide) (by decide) rfl rfl rfl fun rb => ?_
    repeat (refine aops_p tok rfl rfl rfl rfl ?_)
    refine aops_perm (⟨some rb, 256 * 1, zerosA ([Value.int .i64 0].map ofZ) 256⟩ :: ⟨some lb, lc * 1, encs spsC all⟩ :: rawO b6 nb nx.length nc ab ac.length bc false :: ⟨nb, nc * 1, ownX rs nx.length⟩ :: ⟨ab, bc * 1, ints ac⟩ :: zraO b2 :: (obX rs nx ++ M)) ?_ ?_
    · exact List.Perm.cons _ (List.perm_middle (l₁ := [rawO b6 nb nx.length nc ab ac.length bc false, ⟨nb, nc * 1, ownX rs nx.length⟩, ⟨ab, bc * 1, ints ac⟩]))
    refine aops_end ?_
    refine acode_seq ?_
    refine acode_joinI (ι := List Int × List (List Sp) × Nat × Nat) (fun q => [(0, .psl ps.length (encs psC ps)), (2, .ref b2 0), (5, .own (some q.2.2.1) q.2.1.length q.2.2.2), (6, .ref b6 0), (7, .int .i64 nx.length), (8, .own (some rb) 256 256)]) (fun q => ⟨some rb, 256 * 1, ints q.1⟩ :: ⟨some q.2.2.1, q.2.2.2 * 1, encs spsC q.2.1⟩ :: rawO b6 nb nx.length nc ab ac.length bc false :: ⟨nb, nc * 1, ownX rs nx.length⟩ :: ⟨ab, bc * 1, ints ac⟩ :: zraO b2 :: (obX rs nx ++ M)) (fun q => SubI ps q.2.1 nx ac ∧ RowI ps q.2.1 cur q.1 256 ∧ q.2.1[nx.length]? = some cur) ?_ ?_
    · repeat (first | refine aops_end ?_ | refine aops_p tok rfl rfl rfl rfl ?_ | refine acode_seq ?_ | refine acode_region ?_ | refine acode_block ?_)
      refine acode_loopS (ι := Nat × List Int × List (List Sp) × Nat × Nat) (fun q => [(0, .psl ps.length (encs psC ps)), (2, .ref b2 0), (5, .own (some q.2.2.2.1) q.2.2.1.length q.2.2.2.2), (6, .ref b6 0), (7, .int .i64 nx.length), (8, .own (some rb) 256 256), (9, .int .i64 q.1)]) (fun q => ⟨some rb, 256 * 1, ints q.2.1⟩ :: ⟨some q.2.2.2.1, q.2.2.2.2 * 1, encs spsC q.2.2.1⟩ :: rawO b6 nb nx.length nc ab ac.length bc false :: ⟨nb, nc * 1, ownX rs nx.length⟩ :: ⟨ab, bc * 1, ints ac⟩ :: zraO b2 :: (obX rs nx ++ M)) (fun q => 256 - q.1) (fun q => q.1 ≤ 256 ∧ SubI ps q.2.2.1 nx ac ∧ RowI ps q.2.2.1 cur q.2.1 q.1 ∧ q.2.2.1[nx.length]? = some cur) (0, List.replicate 256 0, all, lb, lc) ⟨Nat.zero_le _, hI, ⟨List.length_replicate .., fun d hd => absurd hd (Nat.not_lt_zero d)⟩, hcur⟩ ⟨rfl, rfl, rfl, rfl, rfl, rfl, rfl, trivial⟩ (by rw [← ints_zeros]; rfl) ?_
      clear hI hal hle hcur hil
      rintro ⟨c, L, all, lb, lc⟩ ⟨hc, hI, hR, hcur⟩
      simp only at hc hI hR hcur ⊢
      have hal := hI.len
      have hil : nx.length < all.length := (List.getElem?_eq_some_iff.1 hcur).1
      by_cases hc2 : c < 256
      · have hLl := hR.len
        have hstp := fun M => sstep_calls hp hcok hc2 M
        have htok := stepS_ok (c := c) hp hcok
        have htl := spOk_len hp htok
        have hv0 : stepS ps cur c = [] → CellOk ps all cur c (-1) := fun e => .inl ⟨e, rfl⟩
        have hv1 : ∀ k : Nat, stepS ps cur c ≠ [] → all[k]? = some (stepS ps cur c) → CellOk ps all cur c k := fun k e h => .inr ⟨e, k, rfl, h⟩
        have hv2 : stepS ps cur c ≠ [] → CellOk ps (all ++ [stepS ps cur c]) cur c (all.length : Nat) := fun e => .inr ⟨e, all.length, rfl, by rw [List.getElem?_append_right (Nat.le_refl _), Nat.sub_self]; rfl⟩
        generalize stepS ps cur c = to at *
        have hLv : ∀ v, (L.set c v)[c]? = some v := fun v => by rw [List.getElem?_set, if_pos rfl, if_pos (by omega)]
        have hss : ∀ v w : Int, (L.set c v).set c w = L.set c w := fun v w => List.set_set ..
        repeat' (first | refine aops_end ?_ | refine aops_pbt tok rfl (by first | omega | decide) rfl rfl rfl ?_ | refine aops_p tok rfl rfl rfl rfl ?_ | refine acode_it rfl ?_ | refine acode_seq ?_ | refine acode_region ?_ | refine acode_block ?_ | refine acode_skip ?_ | refine then_n ?_)
        all_goals try (exfalso; omega)
        refine aops_ixo tok rfl rfl rfl rfl (by omega) (by omega) rfl rfl rfl ?_
        refine aops_stk tok 0 (ints (L.set c (-1))) (⟨some rb, 256 * 1, ints (L.set c (-1))⟩ :: ⟨some lb, lc * 1, encs spsC all⟩ :: rawO b6 nb nx.length nc ab ac.length bc false :: ⟨nb, nc * 1, ownX rs nx.length⟩ :: ⟨ab, bc * 1, ints ac⟩ :: zraO b2 :: (obX rs nx ++ M)) rfl rfl rfl rfl rfl rfl (by show _ * 1 + 1 ≤ _; rw [ints_len]; omega) (ints_set1 (j := ((c : Nat) : Int).toNat) (by omega) _) rfl rfl rfl ?_
        repeat (first | refine aops_end ?_ | refine aops_p tok rfl rfl rfl rfl ?_ | refine acode_seq ?_ | refine acode_region ?_)
        refine aops_ixo tok rfl rfl rfl rfl (by omega) (by omega) rfl rfl rfl ?_
        refine aops_ld tok 1 (y := .psl cur.length (encs spC cur)) rfl rfl rfl rfl (by rw [headed_eq]; exact sps_get (k := nx.length) hcur) rfl rfl rfl ?_
        repeat (refine aops_p tok rfl rfl rfl rfl ?_)
        rw [u8_idK hc2]
        refine aops_callx Try.func27 rfl rfl rfl rfl (hstp _) rfl rfl rfl ?_
        by_cases hto : to = []
        · have hl0 : to.length = 0 := by rw [hto]; rfl
          have hR2 := hR.step hc2 (hv0 hto)
          repeat' (first | refine aops_end ?_ | refine aops_pbt tok rfl (by first | omega | decide) rfl rfl rfl ?_ | refine aops_p tok rfl rfl rfl rfl ?_ | refine acode_it rfl ?_ | refine acode_seq ?_ | refine acode_region ?_)
          all_goals try (exfalso; omega)
          refine acode_exit ?_
          repeat (first | refine exit_then ?_ | refine exit_here ?_ | refine then_n ?_)
          repeat (first | refine aops_end ?_ | refine aops_a tok rfl (by omega) (by omega) rfl rfl rfl ?_ | refine aops_p tok rfl rfl rfl rfl ?_ | refine acode_region ?_)
          exact ⟨(c + 1, L.set c (-1), all, lb, lc), ⟨by simp only; omega, hI, hR2, hcur⟩, by simp only; omega, ⟨rfl, rfl, rfl, rfl, rfl, rfl, rfl, trivial⟩, rfl⟩
        · have hl0 : to.length ≠ 0 := fun e => hto (List.eq_nil_of_length_eq_zero e)
          repeat (refine aops_p tok rfl rfl rfl rfl ?_)
          refine aops_end ?_
          refine acode_seq ?_
          refine acode_seq ?_
          refine acode_region ?_
          repeat (refine aops_p tok rfl rfl rfl rfl ?_)
          refine aops_end ?_
          refine acode_id rfl (fun e => by exfalso; omega) (fun e => ?_)
          repeat (first | refine acode_skip ?_ | refine then_n ?_)
          refine acode_seq ?_
          refine acode_joinI (ι := Int) (fun v => [(0, .psl ps.length (encs psC ps)), (2, .ref b2 0), (5, .own (some lb) all.length lc), (6, .ref b6 0), (7, .int .i64 nx.length), (8, .own (some rb) 256 256), (9, .int .i64 c), (10, .psl to.length (encs spC to))]) (fun v => ⟨some rb, 256 * 1, ints (L.set c v)⟩ :: ⟨some lb, lc * 1, encs spsC all⟩ :: rawO b6 nb nx.length nc ab ac.length bc false :: ⟨nb, nc * 1, ownX rs nx.length⟩ :: ⟨ab, bc * 1, ints ac⟩ :: zraO b2 :: (obX rs nx ++ M)) (fun v => v = -1 ∨ ∃ j : Nat, v = j ∧ all[j]? = some to) ?_ ?_
          · repeat (first | refine aops_end ?_ | refine aops_p tok rfl rfl rfl rfl ?_ | refine acode_seq ?_ | refine acode_region ?_ | refine acode_block ?_)
            refine acode_loopS (ι := Nat × Int) (fun q => [(0, .psl ps.length (encs psC ps)), (2, .ref b2 0), (5, .own (some lb) all.length lc), (6, .ref b6 0), (7, .int .i64 nx.length), (8, .own (some rb) 256 256), (9, .int .i64 c), (10, .psl to.length (encs spC to)), (11, .int .i64 q.1)]) (fun q => ⟨some rb, 256 * 1, ints (L.set c q.2)⟩ :: ⟨some lb, lc * 1, encs spsC all⟩ :: rawO b6 nb nx.length nc ab ac.length bc false :: ⟨nb, nc * 1, ownX rs nx.length⟩ :: ⟨ab, bc * 1, ints ac⟩ :: zraO b2 :: (obX rs nx ++ M)) (fun q => all.length - q.1) (fun q => q.1 ≤ all.length ∧ (q.2 = -1 ∨ ∃ j : Nat, q.2 = j ∧ all[j]? = some to)) (0, -1) ⟨Nat.zero_le _, .inl rfl⟩ ⟨rfl, rfl, rfl, rfl, rfl, rfl, rfl, rfl, rfl, trivial⟩ rfl ?_
            rintro ⟨k, v⟩ ⟨hk, hv⟩
            simp only at hk hv ⊢
            by_cases hkl : k < all.length
            · rcases hv with rfl | ⟨j, rfl, hj⟩
              · obtain ⟨s, hs⟩ : ∃ s, all[k]? = some s := ⟨_, List.getElem?_eq_getElem hkl⟩
                have hsl := spOk_len hp (hI.ok s (List.mem_of_getElem? hs))
                have hsm := fun M => ssame_calls (a := s) (b := to) (by omega) (by omega) M
                repeat' (first | refine aops_pbt tok rfl (by first | omega | decide) rfl rfl rfl ?_ | refine aops_p tok rfl rfl rfl rfl ?_ | refine acode_seq ?_ | refine acode_region ?_)
                all_goals try (exfalso; omega)
                refine aops_ixo tok rfl rfl rfl rfl (by omega) (by omega) rfl rfl rfl ?_
                refine aops_ld tok 0 (y := .int .i64 (-1)) rfl rfl rfl rfl (by rw [headed_eq]; exact ints_own (j := c) (hLv (-1))) rfl rfl rfl ?_
                repeat' (first | refine aops_end ?_ | refine aops_pbt tok rfl (by first | omega | decide) rfl rfl rfl ?_ | refine aops_p tok rfl rfl rfl rfl ?_ | refine acode_it rfl ?_ | refine acode_seq ?_ | refine acode_region ?_ | refine acode_block ?_ | refine acode_skip ?_ | refine then_n ?_)
                all_goals try (exfalso; omega)
                refine aops_ixo tok rfl rfl rfl rfl (by omega) (by omega) rfl rfl rfl ?_
                refine aops_ld tok 1 (y := .psl s.length (encs spC s)) rfl rfl rfl rfl (by rw [headed_eq]; exact sps_get (k := k) hs) rfl rfl rfl ?_
                repeat (refine aops_p tok rfl rfl rfl rfl ?_)
                refine aops_callx Try.func28 rfl rfl rfl rfl (hsm _) rfl rfl rfl ?_
                by_cases hst : s = to
                · rw [decide_eq_true hst]
                  subst hst
                  repeat' (first | refine aops_end ?_ | refine aops_p tok rfl rfl rfl rfl ?_ | refine acode_it rfl ?_ | refine acode_region ?_)
                  all_goals try (exfalso; omega)
                  refine aops_ixo tok rfl rfl rfl rfl (by omega) (by omega) rfl rfl rfl ?_
                  refine aops_stk tok 0 (ints (L.set c (k : Int))) (⟨some rb, 256 * 1, ints (L.set c (k : Int))⟩ :: ⟨some lb, lc * 1, encs spsC all⟩ :: rawO b6 nb nx.length nc ab ac.length bc false :: ⟨nb, nc * 1, ownX rs nx.length⟩ :: ⟨ab, bc * 1, ints ac⟩ :: zraO b2 :: (obX rs nx ++ M)) rfl rfl rfl rfl rfl rfl (by show _ * 1 + 1 ≤ _; rw [ints_len, List.length_set]; omega) (by rw [← hss (-1) (k : Int)]; exact ints_set1 (j := ((c : Nat) : Int).toNat) (by rw [List.length_set]; omega) _) rfl rfl rfl ?_
                  repeat (first | refine aops_end ?_ | refine aops_endb ?_ | refine aops_a tok rfl (by omega) (by omega) rfl rfl rfl ?_ | refine aops_p tok rfl rfl rfl rfl ?_ | refine acode_region ?_ | refine then_n ?_)
                  exact ⟨(k + 1, k), ⟨by simp only; omega, .inr ⟨k, rfl, hs⟩⟩, by simp only; omega, ⟨rfl, rfl, rfl, rfl, rfl, rfl, rfl, rfl, rfl, trivial⟩, rfl⟩
                · rw [decide_eq_false hst]
                  repeat' (first | refine aops_end ?_ | refine aops_a tok rfl (by omega) (by omega) rfl rfl rfl ?_ | refine aops_p tok rfl rfl rfl rfl ?_ | refine acode_if rfl ?_ | refine acode_region ?_ | refine acode_skip ?_ | refine then_n ?_ | refine block_n ?_)
                  all_goals try (exfalso; omega)
                  exact ⟨(k + 1, -1), ⟨by simp only; omega, .inl rfl⟩, by simp only; omega, ⟨rfl, rfl, rfl, rfl, rfl, rfl, rfl, rfl, rfl, trivial⟩, rfl⟩
              · repeat' (first | refine aops_pbt tok rfl (by first | omega | decide) rfl rfl rfl ?_ | refine aops_p tok rfl rfl rfl rfl ?_ | refine acode_seq ?_ | refine acode_region ?_)
                all_goals try (exfalso; omega)
                refine aops_ixo tok rfl rfl rfl rfl (by omega) (by omega) rfl rfl rfl ?_
                refine aops_ld tok 0 (y := .int .i64 (j : Int)) rfl rfl rfl rfl (by rw [headed_eq]; exact ints_own (j := c) (hLv _)) rfl rfl rfl ?_
                repeat' (first | refine aops_end ?_ | refine aops_pbf tok rfl (by first | omega | decide) rfl rfl rfl ?_ | refine aops_p tok rfl rfl rfl rfl ?_ | refine acode_if rfl ?_)
                all_goals try (exfalso; omega)
                refine acode_exit ?_
                repeat (first | refine exit_then ?_ | refine exit_here ?_ | refine then_n ?_)
                exact ⟨(j : Int), .inr ⟨j, rfl, hj⟩, ⟨rfl, rfl, rfl, rfl, rfl, rfl, rfl, rfl, trivial⟩, rfl⟩
            · repeat' (first | refine aops_end ?_ | refine aops_o rfl rfl rfl ?_ | refine aops_pbf tok rfl (by first | omega | decide) rfl rfl rfl ?_ | refine aops_p tok rfl rfl rfl rfl ?_ | refine acode_if rfl ?_ | refine acode_seq ?_ | refine acode_region ?_)
              all_goals try (exfalso; omega)
              refine acode_exit ?_
              repeat (first | refine exit_then ?_ | refine exit_here ?_ | refine then_n ?_)
              exact ⟨v, hv, ⟨rfl, rfl, rfl, rfl, rfl, rfl, rfl, rfl, trivial⟩, rfl⟩
          rintro v hv
          rcases hv with rfl | ⟨j, rfl, hj⟩
          · repeat' (first | refine aops_p tok rfl rfl rfl rfl ?_ | refine acode_seq ?_ | refine acode_region ?_)
            all_goals try (exfalso; omega)
            refine aops_ixo tok rfl rfl rfl rfl (by omega) (by omega) rfl rfl rfl ?_
            refine aops_ld tok 0 (y := .int .i64 (-1)) rfl rfl rfl rfl (by rw [headed_eq]; exact ints_own (j := c) (hLv (-1))) rfl rfl rfl ?_
            by_cases h400 : all.length = 400
            · repeat' (first | refine aops_end ?_ | refine aops_pbt tok rfl (by first | omega | decide) rfl rfl rfl ?_ | refine aops_p tok rfl rfl rfl rfl ?_ | refine acode_it rfl ?_ | refine acode_seq ?_ | refine acode_region ?_)
              all_goals try (exfalso; omega)
              refine aops_stk tok 2 [.own nb nx.length nc, .own ab ac.length bc, .bool true] (⟨some rb, 256 * 1, ints (L.set c (-1))⟩ :: ⟨some lb, lc * 1, encs spsC all⟩ :: rawO b6 nb nx.length nc ab ac.length bc true :: ⟨nb, nc * 1, ownX rs nx.length⟩ :: ⟨ab, bc * 1, ints ac⟩ :: zraO b2 :: (obX rs nx ++ M)) rfl rfl rfl rfl rfl rfl (by show 2 + 1 ≤ 3; decide) rfl rfl rfl rfl ?_
              repeat (first | refine aops_end ?_ | refine acode_seq ?_ | refine acode_region ?_)
              refine aops_ld tok 2 (y := .agg [.own nb nx.length nc, .own ab ac.length bc, .bool true]) rfl rfl rfl rfl rfl rfl rfl rfl ?_
              skip
              refine aops_stk tok 5 [.own nb nx.length nc, .own ab ac.length bc, .bool true] (⟨some rb, 256 * 1, ints (L.set c (-1))⟩ :: ⟨some lb, lc * 1, encs spsC all⟩ :: rawO b6 nb nx.length nc ab ac.length bc true :: ⟨nb, nc * 1, ownX rs nx.length⟩ :: ⟨ab, bc * 1, ints ac⟩ :: rawO b2 nb nx.length nc ab ac.length bc true :: (obX rs nx ++ M)) rfl rfl rfl rfl rfl rfl (by show 0 + 3 ≤ 3; decide) rfl rfl rfl rfl ?_
              repeat (refine aops_end ?_)
              refine acode_drop0 (acode_drop0 (acode_drop0 (acode_drop0 (acode_drop0 ?_))))
              refine acode_pubref0 2 rfl ?_
              refine acode_dropL (obX rs nx) ?_
              refine acode_ret ?_
              repeat (first | refine ret_then ?_ | refine ret_block ?_)
              exact ⟨_, .inl ⟨nb, nx.length, nc, ab, ac.length, bc, rfl, rfl⟩, resOf_pp tok rfl rfl rfl⟩
            · have hR2 := (hR.more to).step hc2 (hv2 hto)
              have hI2 := hI.more htok (by omega)
              have hcur2 : (all ++ [to])[nx.length]? = some cur := by rw [List.getElem?_append_left hil]; exact hcur
              repeat' (first | refine aops_end ?_ | refine aops_pbt tok rfl (by first | omega | decide) rfl rfl rfl ?_ | refine aops_pbf tok rfl (by first | omega | decide) rfl rfl rfl ?_ | refine aops_p tok rfl rfl rfl rfl ?_ | refine acode_it rfl ?_ | refine acode_if rfl ?_ | refine acode_seq ?_ | refine acode_region ?_ | refine acode_skip ?_ | refine then_n ?_)
              all_goals try (exfalso; omega)
              refine aops_ixo tok rfl rfl rfl rfl (by omega) (by omega) rfl rfl rfl ?_
              refine aops_stk tok 0 (ints (L.set c (all.length : Int))) (⟨some rb, 256 * 1, ints (L.set c (all.length : Int))⟩ :: ⟨some lb, lc * 1, encs spsC all⟩ :: rawO b6 nb nx.length nc ab ac.length bc false :: ⟨nb, nc * 1, ownX rs nx.length⟩ :: ⟨ab, bc * 1, ints ac⟩ :: zraO b2 :: (obX rs nx ++ M)) rfl rfl rfl rfl rfl rfl (by show _ * 1 + 1 ≤ _; rw [ints_len, List.length_set]; omega) (by rw [← hss (-1) (all.length : Int)]; exact ints_set1 (j := ((c : Nat) : Int).toNat) (by rw [List.length_set]; omega) _) rfl rfl rfl ?_
              repeat (first | refine aops_end ?_ | refine aops_p tok rfl rfl rfl rfl ?_ | refine acode_region ?_)
              refine aops_litn tok rfl rfl rfl rfl rfl rfl rfl ?_
              refine aops_append tok 1 (m := 1) (ds := spsC to) rfl rfl rfl (.inl rfl) rfl rfl (encs_len spsC_len all) rfl rfl rfl (by show _ * 24 ≤ _; omega) (by omega) rfl rfl fun lb1 lc1 => ?_
              refine aops_put rfl ?_
              refine aops_somed 90 rfl (Nat.succ_pos _) fun lb2 hlb => ?_
              subst hlb
              repeat (first | refine aops_end ?_ | refine aops_endb ?_ | refine aops_a tok rfl (by omega) (by omega) rfl rfl rfl ?_ | refine aops_p tok rfl rfl rfl rfl ?_ | refine acode_region ?_ | refine then_n ?_)
              exact ⟨(c + 1, L.set c all.length, all ++ [to], lb2, lc1), ⟨by simp only; omega, hI2, hR2, hcur2⟩, by simp only; omega, ⟨rfl, rfl, by simp only [List.length_append]; rfl, rfl, rfl, rfl, rfl, trivial⟩, by simp only [encs_app]; simp [encs]⟩
          · have hR2 := hR.step hc2 (hv1 j hto hj)
            repeat' (first | refine aops_p tok rfl rfl rfl rfl ?_ | refine acode_seq ?_ | refine acode_region ?_)
            all_goals try (exfalso; omega)
            refine aops_ixo tok rfl rfl rfl rfl (by omega) (by omega) rfl rfl rfl ?_
            refine aops_ld tok 0 (y := .int .i64 (j : Int)) rfl rfl rfl rfl (by rw [headed_eq]; exact ints_own (j := c) (hLv _)) rfl rfl rfl ?_
            repeat' (first | refine aops_end ?_ | refine aops_a tok rfl (by omega) (by omega) rfl rfl rfl ?_ | refine aops_pbf tok rfl (by first | omega | decide) rfl rfl rfl ?_ | refine aops_p tok rfl rfl rfl rfl ?_ | refine acode_if rfl ?_ | refine acode_region ?_ | refine acode_skip ?_ | refine then_n ?_ | refine block_n ?_)
            all_goals try (exfalso; omega)
            exact ⟨(c + 1, L.set c j, all, lb, lc), ⟨by simp only; omega, hI, hR2, hcur⟩, by simp only; omega, ⟨rfl, rfl, rfl, rfl, rfl, rfl, rfl, trivial⟩, rfl⟩
      · obtain rfl : c = 256 := by omega
        repeat' (first | refine aops_end ?_ | refine aops_pbf tok rfl (by first | omega | decide) rfl rfl rfl ?_ | refine aops_p tok rfl rfl rfl rfl ?_ | refine acode_if rfl ?_ | refine acode_seq ?_ | refine acode_region ?_)
        all_goals try (exfalso; omega)
        refine acode_exit ?_
        repeat (first | refine exit_then ?_ | refine exit_here ?_ | refine then_n ?_)
        exact ⟨(L, all, lb, lc), ⟨hI, hR, hcur⟩, ⟨rfl, rfl, rfl, rfl, rfl, rfl, trivial⟩, rfl⟩
    · clear hI hal hle hcur hil
      rintro ⟨L, all, lb, lc⟩ ⟨hI, hR, hcur⟩
      simp only at hI hR hcur ⊢
      have hal := hI.len
      have hle := hI.le
      have hil : nx.length < all.length := (List.getElem?_eq_some_iff.1 hcur).1
      have hacc := fun M => saccepts_calls hp hcok M
      have hnext := hI.next hp hcur hR
      generalize acceptsF ps cur = a at *
      refine acode_perm (rawO b6 nb nx.length nc ab ac.length bc false :: ⟨nb, nc * 1, ownX rs nx.length⟩ :: ⟨ab, bc * 1, ints ac⟩ :: ⟨some lb, lc * 1, encs spsC all⟩ :: zraO b2 :: ⟨some rb, 256 * 1, ints L⟩ :: (obX rs nx ++ M)) ?_ ?_
      · exact perm_row _ _ _ _ _ _ _
      repeat (first | refine aops_p tok rfl rfl rfl rfl ?_ | refine aops_ld tok 0 rfl rfl rfl rfl rfl rfl rfl rfl ?_ | refine acode_seq ?_ | refine acode_region ?_)
      refine aops_litn tok rfl rfl rfl rfl rfl rfl rfl ?_
      refine aops_append tok 1 (m := 1) (ds := [.own (some rb) 256 256]) rfl rfl rfl (.inl rfl) rfl rfl (by rw [ownX_len, Nat.mul_one]) rfl rfl rfl (by show _ * 24 ≤ _; omega) (by omega) rfl rfl fun nb1 nc1 => ?_
      repeat (first | refine aops_put rfl ?_ | refine aops_end ?_ | refine aops_p tok rfl rfl rfl rfl ?_ | refine aops_stn tok rfl rfl rfl rfl rfl rfl rfl rfl rfl ?_)
      refine acode_drawP [rawO b6 nb1 (nx.length + 1) nc1 ab ac.length bc false, ⟨some lb, lc * 1, encs spsC all⟩] 10 [0, 1, 2, 3, 4, 5, 6, 7, 8, 9] [9] mixed (by kernel_rfl) (by kernel_rfl) rfl ?_
      repeat (first | refine seqO_p tok rfl rfl rfl rfl rfl ?_ | refine seqO_ld tok 0 rfl rfl rfl rfl rfl (by simp) rfl rfl rfl rfl ?_)
      refine seqO_ixo tok rfl rfl rfl rfl rfl (by omega) (by omega) rfl rfl rfl ?_
      refine seqO_ld tok 1 (y := .psl cur.length (encs spC cur)) rfl rfl rfl rfl rfl (by simp) (by rw [headed_eq]; exact sps_get (k := nx.length) hcur) rfl rfl rfl ?_
      skip
      refine seqO_call _ rfl Try.func29 rfl rfl rfl rfl (fun M' => hacc M') rfl rfl rfl ?_
      refine seqO_lit tok rfl rfl rfl rfl rfl rfl rfl rfl rfl ?_
      refine seqO_app tok 2 (m := 1) (ds := [.int .i64 a]) rfl rfl rfl rfl (.inl rfl) rfl rfl (by rw [ints_len, Nat.mul_one]) rfl rfl rfl (by show _ * 8 ≤ _; omega) (by omega) (by intro y o ho; simp at ho ⊢; rcases ho with ho | ho <;> simp [ho]) rfl rfl rfl fun ab1 bc1 => ?_
      refine SeqO.done ?_
      refine aops_perm (rawO b6 nb1 (nx.length + 1) nc1 ab ac.length bc false :: ⟨nb1, nc1 * 1, ownX (upR rs nx.length rb) (nx.length + 1)⟩ :: ⟨ab1, bc1 * 1, ints (ac ++ [a])⟩ :: ⟨some lb, lc * 1, encs spsC all⟩ :: zraO b2 :: (obX (upR rs nx.length rb) (nx ++ [L]) ++ M)) ?_ ?_
      · rw [ownX_add, obX_add, ints_app, List.append_assoc]
        exact List.Perm.append_left [rawO b6 nb1 (nx.length + 1) nc1 ab ac.length bc false, ⟨nb1, nc1 * 1, ownX rs nx.length ++ [.own (some rb) 256 256]⟩, ⟨ab1, bc1 * 1, ints ac ++ ints [a]⟩, ⟨some lb, lc * 1, encs spsC all⟩, zraO b2] (List.perm_middle (l₁ := obX rs nx) (a := ⟨some rb, 256, ints L⟩)).symm
      repeat (first | refine aops_end ?_ | refine aops_endb ?_ | refine aops_a tok rfl (by omega) (by omega) rfl rfl rfl ?_ | refine aops_p tok rfl rfl rfl rfl ?_ | refine aops_stn tok rfl rfl rfl rfl rfl rfl rfl rfl rfl ?_ | refine acode_region ?_ | refine then_n ?_)
      exact ⟨⟨all, nx ++ [L], ac ++ [a], lb, lc, nb1, nc1, ab1, bc1, upR rs nx.length rb⟩, hnext, by simp only [List.length_append, List.length_singleton]; omega, ⟨rfl, rfl, rfl, rfl, by simp only [List.length_append]; rfl, trivial⟩, by simp only [List.length_append]; rfl⟩
  · have he : nx.length = all.length := by omega
    obtain ⟨hdone, hrw⟩ := hI.done he
    have h0 : 0 < nx.length := by rw [he]; exact (List.getElem?_eq_some_iff.1 hI.zero).1
    repeat' (first | refine aops_end ?_ | refine aops_pbf tok rfl (by first | omega | decide) rfl rfl rfl ?_ | refine aops_p tok rfl rfl rfl rfl ?_ | refine acode_if rfl ?_ | refine acode_seq ?_ | refine acode_region ?_)
    all_goals try (exfalso; omega)
    refine acode_exit ?_
    repeat (first | refine exit_then ?_ | refine exit_here ?_ | refine then_n ?_)
    refine acode_perm (rawO b6 nb nx.length nc ab ac.length bc false :: ⟨ab, bc * 1, ints ac⟩ :: ⟨nb, nc * 1, ownX rs nx.length⟩ :: ⟨some lb, lc * 1, encs spsC all⟩ :: zraO b2 :: (obX rs nx ++ M)) (List.Perm.cons _ (List.Perm.swap ..)) ?_
    refine acode_pubFld (sz := 1) (cs' := [.own nb nx.length nc, .psl ac.length (ints ac), .bool false]) 1 rfl rfl (by rw [ints_len, Nat.mul_one]) (by decide) rfl ?_
    repeat (first | refine aops_ld tok 0 rfl rfl rfl rfl rfl rfl rfl rfl ?_ | refine acode_seq ?_ | refine acode_region ?_)
    refine aops_stk tok 3 [.own nb nx.length nc, .psl ac.length (ints ac), .bool false] (⟨some b6, 3, [.own nb nx.length nc, .psl ac.length (ints ac), .bool false]⟩ :: ⟨nb, nc * 1, ownX rs nx.length⟩ :: ⟨some lb, lc * 1, encs spsC all⟩ :: ⟨some b2, 3, [.own nb nx.length nc, .psl ac.length (ints ac), .bool false]⟩ :: (obX rs nx ++ M)) rfl rfl rfl rfl rfl rfl (by show 0 + 3 ≤ 3; decide) rfl rfl rfl rfl ?_
    refine aops_perm (⟨some b2, 3, [.own nb nx.length nc, .psl ac.length (ints ac), .bool false]⟩ :: ⟨some b6, 3, [.own nb nx.length nc, .psl ac.length (ints ac), .bool false]⟩ :: ⟨nb, nc * 1, ownX rs nx.length⟩ :: ⟨some lb, lc * 1, encs spsC all⟩ :: (obX rs nx ++ M)) (perm_four _ _ _ _ _) ?_
    refine aops_pubref0 2 rfl ?_
    refine aops_drop0 ?_
    refine aops_drop 1 ?_
    repeat (refine aops_end ?_)
    refine acode_ret ?_
    skip
    exact ⟨_, .inr ⟨all, nx, ac, nb, nc, rs, hdone, hrw, h0, rfl, rfl⟩, resOf_pp tok rfl rfl rfl⟩
end Go.Proofs.Ytobpbelgihilpaa.Ab
/- Chapter 5 in plain terms: useless states cut, state by state; the automaton's states in the order in which they are come to. No condition. -/
set_option linter.unusedVariables false
set_option linter.unusedSimpArgs false
namespace Go.Proofs.Ytobpbelgihilpaa.Ab

theorem cellI_set {nx : List (List Int)} {i j c d : Nat} {r : List Int} {v : Int} (hr : nx[i]? = some r) (hc : c < r.length) : cellI (nx.set i (r.set c v)) j d = if j = i ∧ d = c then v else cellI nx j d := by
  unfold cellI
  have hi := (List.getElem?_eq_some_iff.1 hr).1
  have e1 : (nx.set i (r.set c v)).getD j [] = if j = i then r.set c v else nx.getD j [] := by
    rw [List.getD_eq_getElem?_getD, List.getD_eq_getElem?_getD, List.getElem?_set]
    by_cases h : i = j
    · subst h; rw [if_pos rfl, if_pos hi, if_pos rfl]; rfl
    · rw [if_neg h, if_neg (fun e => h e.symm)]
  rw [e1]
  by_cases h : j = i
  · subst h
    rw [if_pos rfl, getD_setm hc]
    have e2 : nx.getD j [] = r := by rw [List.getD_eq_getElem?_getD, hr]; rfl
    rw [e2]
    by_cases h2 : c = d
    · subst h2; simp
    · rw [if_neg h2, if_neg (fun e => h2 e.2.symm)]
  · rw [if_neg h, if_neg (fun e => h e.1)]
/-- Cut up to a byte of a state. -/
structure CutI (nx : List (List Int)) (ok : List Bool) (nz : List (List Int)) (i c : Nat) : Prop where
  len : nz.length = nx.length
  row : ∀ (j : Nat) (r : List Int), nz[j]? = some r → r.length = 256
  cell : ∀ j d, j < nx.length → d < 256 → cellI nz j d = if j < i ∨ j = i ∧ d < c then cutV ok (cellI nx j d) else cellI nx j d
theorem CutI.step {nx nz : List (List Int)} {ok : List Bool} {i c : Nat} {r : List Int} (h : CutI nx ok nz i c) (hr : nz[i]? = some r) (hi : i < nx.length) (hc : c < 256) (hv : cutV ok (cellI nx i c) = -1) : CutI nx ok (nz.set i (r.set c (-1))) i (c + 1) := by
  have hrl := h.row i r hr
  refine ⟨by rw [List.length_set]; exact h.len, fun j q hq => ?_, fun j d hj hd => ?_⟩
  · rw [List.getElem?_set] at hq
    split at hq
    · split at hq
      · cases hq; rw [List.length_set]; exact hrl
      · cases hq
    · exact h.row j q hq
  · rw [cellI_set hr (by omega), h.cell j d hj hd]
    by_cases h1 : j = i ∧ d = c
    · rw [if_pos h1, if_pos (by omega), h1.1, h1.2, hv]
    · rw [if_neg h1]
      by_cases h2 : j < i ∨ j = i ∧ d < c
      · rw [if_pos h2, if_pos (by omega)]
      · rw [if_neg h2, if_neg (by omega)]
theorem CutI.keep {nx nz : List (List Int)} {ok : List Bool} {i c : Nat} (h : CutI nx ok nz i c) (hv : cutV ok (cellI nx i c) = cellI nx i c) : CutI nx ok nz i (c + 1) := by
  refine ⟨h.len, h.row, fun j d hj hd => ?_⟩
  rw [h.cell j d hj hd]
  by_cases h1 : j = i ∧ d = c
  · rw [if_neg (by omega), if_pos (by omega), h1.1, h1.2, hv]
  · by_cases h2 : j < i ∨ j = i ∧ d < c
    · rw [if_pos h2, if_pos (by omega)]
    · rw [if_neg h2, if_neg (by omega)]
theorem CutI.next {nx nz : List (List Int)} {ok : List Bool} {i : Nat} (h : CutI nx ok nz i 256) : CutI nx ok nz (i + 1) 0 := by
  refine ⟨h.len, h.row, fun j d hj hd => ?_⟩
  rw [h.cell j d hj hd]
  by_cases h2 : j < i ∨ j = i ∧ d < 256
  · rw [if_pos h2, if_pos (by omega)]
  · rw [if_neg h2, if_neg (by omega)]
theorem CutI.begin {nx : List (List Int)} {ac : List Int} (ok : List Bool) (h : RwOk nx ac) : CutI nx ok nx 0 0 := ⟨rfl, h.row, fun j d hj hd => by rw [if_neg (by omega)]⟩
theorem CutI.done {nx nz : List (List Int)} {ac : List Int} {ok : List Bool} (hw : RwOk nx ac) (h : CutI nx ok nz nx.length 0) : nz = cutR nx ok := by
  refine List.ext_getElem (by rw [h.len]; simp [cutR]) fun j hj1 hj2 => ?_
  have hj : j < nx.length := by rw [← h.len]; exact hj1
  have e1 : (cutR nx ok)[j] = nx[j].map (cutV ok) := by simp [cutR]
  rw [e1]
  have l1 := h.row j _ (List.getElem?_eq_getElem hj1)
  have l2 := hw.row j _ (List.getElem?_eq_getElem hj)
  refine List.ext_getElem (by rw [List.length_map, l1, l2]) fun d hd1 hd2 => ?_
  have hd : d < 256 := by omega
  have hc := h.cell j d hj hd
  rw [if_pos (by omega)] at hc
  unfold cellI at hc
  rw [List.getD_eq_getElem?_getD, List.getD_eq_getElem?_getD, List.getD_eq_getElem?_getD, List.getD_eq_getElem?_getD, List.getElem?_eq_getElem hj1, List.getElem?_eq_getElem hj, Option.getD_some, Option.getD_some, List.getElem?_eq_getElem hd1, List.getElem?_eq_getElem (by omega), Option.getD_some, Option.getD_some] at hc
  rw [hc, List.getElem_map]
theorem cutR_ok {nx : List (List Int)} {ac : List Int} (ok : List Bool) (h : RwOk nx ac) : RwOk (cutR nx ok) ac := by
  refine ⟨by simpa [cutR] using h.n, by simpa [cutR] using h.len, fun i r hr => ?_, fun i r hr v hv => ?_, h.acc⟩
  · unfold cutR at hr
    rw [List.getElem?_map] at hr
    obtain ⟨q, hq, rfl⟩ := Option.map_eq_some_iff.1 hr
    rw [List.length_map]; exact h.row i q hq
  · unfold cutR at hr
    rw [List.getElem?_map] at hr
    obtain ⟨q, hq, rfl⟩ := Option.map_eq_some_iff.1 hr
    obtain ⟨w, hw, rfl⟩ := List.mem_map.1 hv
    have := h.to i q hq w hw
    have h0 : 0 < nx.length := by have := (List.getElem?_eq_some_iff.1 hq).1; omega
    unfold cutV
    simp only [cutR, List.length_map]
    split <;> omega
/-! ### the order -/
def FCell (nx : List (List Int)) (cl : List Int) (order : List Nat) (o c : Nat) (v : Int) : Prop := (cellI nx o c < 0 ∧ v = -1) ∨ (0 ≤ cellI nx o c ∧ ∃ k : Nat, v = k ∧ ∃ o', order[k]? = some o' ∧ cl.getD o' 0 = cl.getD (cellI nx o c).toNat 0)
theorem FCell.more {nx : List (List Int)} {cl : List Int} {order : List Nat} {o c : Nat} {v : Int} (x : Nat) (h : FCell nx cl order o c v) : FCell nx cl (order ++ [x]) o c v := by
  rcases h with h | ⟨h1, k, h2, o', h3, h4⟩
  · exact .inl h
  · refine .inr ⟨h1, k, h2, o', ?_, h4⟩
    rw [List.getElem?_append_left (List.getElem?_eq_some_iff.1 h3).1]; exact h3
structure FRow (nx : List (List Int)) (cl : List Int) (order : List Nat) (o : Nat) (L : List Int) (c : Nat) : Prop where
  len : L.length = 256
  ok : ∀ d, d < c → FCell nx cl order o d (L.getD d (-1))
theorem FRow.step {nx : List (List Int)} {cl : List Int} {order : List Nat} {o : Nat} {L : List Int} {c : Nat} {v : Int} (h : FRow nx cl order o L c) (hc : c < 256) (hv : FCell nx cl order o c v) : FRow nx cl order o (L.set c v) (c + 1) := ⟨by rw [List.length_set]; exact h.len, fun d hd => by
  rw [getD_setm (by rw [h.len]; exact hc)]
  split
  · rename_i e; rw [← e]; exact hv
  · exact h.ok d (by omega)⟩
theorem FRow.more {nx : List (List Int)} {cl : List Int} {order : List Nat} {o : Nat} {L : List Int} {c : Nat} (x : Nat) (h : FRow nx cl order o L c) : FRow nx cl (order ++ [x]) o L c := ⟨h.len, fun d hd => (h.ok d hd).more x⟩
structure FinI (nx : List (List Int)) (ac cl : List Int) (order : List Nat) (dn : List (List Int)) (da : List Int) : Prop where
  zero : order[0]? = some 0
  lt : ∀ o ∈ order, o < ac.length
  one : (order.map fun o => cl.getD o 0).Nodup
  n2 : da.length = dn.length
  le : dn.length ≤ order.length
  row : ∀ (i : Nat) (L : List Int), dn[i]? = some L → ∃ o, order[i]? = some o ∧ FRow nx cl order o L 256
  acc : ∀ (i o : Nat), i < dn.length → order[i]? = some o → da.getD i 0 = ac.getD o 0
theorem nodup_of_map {α β : Type} {f : α → β} : ∀ {l : List α}, (l.map f).Nodup → l.Nodup
  | [], _ => List.nodup_nil
  | x :: l, h => by
    rw [List.map_cons, List.nodup_cons] at h
    rw [List.nodup_cons]
    exact ⟨fun hx => h.1 (List.mem_map.2 ⟨x, hx, rfl⟩), nodup_of_map h.2⟩
theorem FinI.small {nx : List (List Int)} {ac cl : List Int} {order : List Nat} {dn : List (List Int)} {da : List Int} (h : FinI nx ac cl order dn da) : order.length ≤ ac.length := by
  have := List.Nodup.length_le_of_subset (nodup_of_map h.one) (l₂ := List.range ac.length) (fun i hi => by simpa using h.lt i hi)
  simpa using this
theorem FinI.more {nx : List (List Int)} {ac cl : List Int} {order : List Nat} {dn : List (List Int)} {da : List Int} {x : Nat} (h : FinI nx ac cl order dn da) (hx : x < ac.length) (hn : ∀ o ∈ order, cl.getD o 0 ≠ cl.getD x 0) : FinI nx ac cl (order ++ [x]) dn da := by
  have hlt : ∀ i, i < dn.length → (order ++ [x])[i]? = order[i]? := fun i hi => List.getElem?_append_left (by have := h.le; omega)
  refine ⟨?_, fun o ho => ?_, ?_, h.n2, by rw [List.length_append]; have := h.le; omega, fun i L hL => ?_, fun i o hi ho => ?_⟩
  · rw [List.getElem?_append_left (List.getElem?_eq_some_iff.1 h.zero).1]; exact h.zero
  · rcases List.mem_append.1 ho with ho | ho
    · exact h.lt o ho
    · rw [List.mem_singleton.1 ho]; exact hx
  · rw [List.map_append, List.nodup_append]
    refine ⟨h.one, by simp, fun a ha b hb e => ?_⟩
    obtain ⟨o, ho, rfl⟩ := List.mem_map.1 ha
    simp only [List.map_cons, List.map_nil, List.mem_singleton] at hb
    exact hn o ho (e.trans hb)
  · obtain ⟨o, h1, h2⟩ := h.row i L hL
    exact ⟨o, by rw [hlt i (List.getElem?_eq_some_iff.1 hL).1]; exact h1, h2.more x⟩
  · rw [hlt i hi] at ho; exact h.acc i o hi ho
theorem FinI.next {nx : List (List Int)} {ac cl : List Int} {order : List Nat} {dn : List (List Int)} {da L : List Int} {o : Nat} (h : FinI nx ac cl order dn da) (ho : order[dn.length]? = some o) (hL : FRow nx cl order o L 256) : FinI nx ac cl order (dn ++ [L]) (da ++ [ac.getD o 0]) := by
  have hlt : dn.length < order.length := (List.getElem?_eq_some_iff.1 ho).1
  refine ⟨h.zero, h.lt, h.one, by simp [h.n2], by simp; omega, fun i L' hL' => ?_, fun i o' hi ho' => ?_⟩
  · by_cases hi : i < dn.length
    · rw [List.getElem?_append_left hi] at hL'; exact h.row i L' hL'
    · have hi2 : i = dn.length := by
        have := (List.getElem?_eq_some_iff.1 hL').1
        rw [List.length_append, List.length_singleton] at this
        omega
      subst hi2
      rw [List.getElem?_append_right (Nat.le_refl _), Nat.sub_self] at hL'
      simp only [List.getElem?_cons_zero, Option.some.injEq] at hL'
      subst hL'
      exact ⟨o, ho, hL⟩
  · by_cases hi2 : i < dn.length
    · rw [List.getD_eq_getElem?_getD, List.getElem?_append_left (by rw [h.n2]; exact hi2), ← List.getD_eq_getElem?_getD]
      exact h.acc i o' hi2 ho'
    · have hi3 : i = dn.length := by
        rw [List.length_append, List.length_singleton] at hi
        omega
      subst hi3
      rw [ho] at ho'
      cases ho'
      rw [List.getD_eq_getElem?_getD, List.getElem?_append_right (by rw [h.n2]; exact Nat.le_refl _), h.n2, Nat.sub_self]; rfl
theorem FinI.done {nx : List (List Int)} {ac cl : List Int} {order : List Nat} {dn : List (List Int)} {da : List Int} (h : FinI nx ac cl order dn da) (he : dn.length = order.length) : FinOk nx ac cl order dn da := by
  refine ⟨h.zero, h.lt, he, by rw [h.n2, he], fun i r hr => ?_, fun i o ho => h.acc i o (by rw [he]; exact (List.getElem?_eq_some_iff.1 ho).1) ho, fun i o ho c hc => ?_⟩
  · obtain ⟨_, _, h2⟩ := h.row i r hr; exact h2.len
  · have hil : i < dn.length := by rw [he]; exact (List.getElem?_eq_some_iff.1 ho).1
    obtain ⟨o', h1, h2⟩ := h.row i _ (List.getElem?_eq_getElem hil)
    rw [ho] at h1
    cases h1
    have := h2.ok c hc
    unfold cellI at *
    rw [List.getD_eq_getElem?_getD (l := dn), List.getElem?_eq_getElem hil]
    exact this
theorem FinI.begin {nx : List (List Int)} {ac cl : List Int} (h : 0 < ac.length) : FinI nx ac cl [0] [] [] := ⟨rfl, fun o ho => by rw [List.mem_singleton.1 ho]; exact h, by simp, rfl, by simp, by simp, fun i o hi => absurd hi (Nat.not_lt_zero i)⟩
/-! ### rows of one's own seen as frozen -/
theorem vwL_map {α : Type} {M : List Ob} {f g : α → A} : ∀ {L : List α}, (∀ x ∈ L, Vw M (f x) (g x)) → VwL M (L.map f) (L.map g)
  | [], _ => .nil
  | x :: L, h => .cons (h x (by simp)) (vwL_map fun y hy => h y (by simp [hy]))
theorem lsC_map (nx : List (List Int)) : encs lsC nx = (List.range nx.length).map fun j => A.psl (nx.getD j []).length (ints (nx.getD j [])) := by
  refine List.ext_getElem? fun k => ?_
  rw [List.getElem?_map]
  by_cases hk : k < nx.length
  · rw [List.getElem?_range hk]
    have h1 : lsC (nx.getD k []) <+: (encs lsC nx).drop (k * 1) := encs_at (e := lsC) (s := 1) (fun _ => rfl) (i := k) (by show nx[k]? = _; rw [List.getD_eq_getElem?_getD, List.getElem?_eq_getElem hk]; rfl)
    obtain ⟨t, ht⟩ := h1
    have h2 : ((encs lsC nx).drop (k * 1))[0]? = some (.psl (nx.getD k []).length (ints (nx.getD k []))) := by rw [← ht]; rfl
    rw [List.getElem?_drop] at h2
    simpa using h2
  · rw [List.getElem?_eq_none (by rw [encs_len lsC_len]; omega), List.getElem?_eq_none (by simp; omega)]; rfl
theorem vw_rows {V : List Ob} {rs : Nat → Nat} {nx : List (List Int)} (hr : ∀ (j : Nat) (r : List Int), nx[j]? = some r → r.length = 256) (hV : ∀ o ∈ obX rs nx, o ∈ V) : VwL V (ownX rs nx.length) (encs lsC nx) := by
  rw [lsC_map]
  refine vwL_map fun j hj => ?_
  have hj := List.mem_range.1 hj
  have hl : (nx.getD j []).length = 256 := by
    rw [List.getD_eq_getElem?_getD, List.getElem?_eq_getElem hj]
    exact hr j _ (List.getElem?_eq_getElem hj)
  rw [hl]
  exact .own (room := 256) (sz := 1) (cs := ints (nx.getD j [])) (hV _ (List.mem_map.2 ⟨j, by simpa using hj, rfl⟩)) rfl (by rw [ints_len, hl]) (by decide) (VwL.rfl' _)
end Go.Proofs.Ytobpbelgihilpaa.Ab
/- Chapter 5: the reference's useful: the walk. No condition. -/
set_option linter.unusedVariables false
set_option linter.unusedSimpArgs false
namespace Go.Proofs.Ytobpbelgihilpaa.Ab
attribute [local irreducible] thenA inBlockA ACode AOps put IntKind.wrap

def usC (ok : List Bool) (v : Int) : Bool := decide (0 ≤ v) && ok.getD v.toNat false
/-- Does a state accept, or lead to one of use by one of the first bytes? -/
def usP (nx : List (List Int)) (ac : List Int) (ok : List Bool) (j c : Nat) : Bool := decide (0 ≤ ac.getD j 0) || (List.range c).any fun c => usC ok (cellI nx j c)
theorem usP_succ {nx : List (List Int)} {ac : List Int} {ok : List Bool} {j c : Nat} : usP nx ac ok j (c + 1) = (usP nx ac ok j c || usC ok (cellI nx j c)) := by
  unfold usP
  rw [List.range_succ, List.any_append, Bool.or_assoc]; simp
theorem usP_mono {nx : List (List Int)} {ac : List Int} {ok : List Bool} {j : Nat} : ∀ {c d : Nat}, c ≤ d → usP nx ac ok j c = true → usP nx ac ok j d = true
  | c, 0, h, hu => by obtain rfl : c = 0 := by omega
                      exact hu
  | c, d + 1, h, hu => by
    by_cases e : c = d + 1
    · rw [← e]; exact hu
    · rw [usP_succ, usP_mono (show c ≤ d by omega) hu]; rfl
theorem usP_no {nx : List (List Int)} {ac : List Int} {ok : List Bool} {j : Nat} (h : usP nx ac ok j 256 = false) : ac.getD j 0 < 0 ∧ ∀ c, c < 256 → 0 ≤ cellI nx j c → ok.getD (cellI nx j c).toNat false = false := by
  unfold usP at h
  rw [Bool.or_eq_false_iff] at h
  obtain ⟨h1, h2⟩ := h
  refine ⟨by have := of_decide_eq_false h1; omega, fun c hc h0 => ?_⟩
  rw [List.any_eq_false] at h2
  have := h2 c (by simpa using hc)
  unfold usC at this
  rw [decide_eq_true h0] at this
  simpa using this
theorem set_cnt {o : List Bool} {i : Nat} (h : o[i]? = some false) : (o.set i true).count false < o.count false := by
  obtain ⟨hi, he⟩ := List.getElem?_eq_some_iff.1 h
  have hpos : 0 < o.count false := List.count_pos_iff.2 (he ▸ List.getElem_mem hi)
  rw [List.count_set hi, he]; simp; omega
set_option maxHeartbeats 8000000 in
theorem suseful_calls {nx : List (List Int)} {ac : List Int} (h : RwOk nx ac) (m : Bool) (M : List Ob) : ACalls Try.prog 17 [.agg (rawC nx ac m)] M (fun r M' => ∃ ok bo, UseOk nx ac ok ∧ r = .own (some bo) ok.length ok.length ∧ M' = ⟨some bo, ok.length * 1, bools ok⟩ :: M) := by
  have hn := h.n
  have hln := h.len
  refine acalls_of_code 67 Try.func17 rfl rfl rfl ?_
  repeat (first | refine acode_seq ?_ | refine acode_region ?_)
  refine aops_boxf rfl rfl rfl rfl rfl rfl rfl ?_
  repeat (first | refine aops_end ?_ | refine aops_p tok rfl rfl rfl rfl ?_ | refine acode_seq ?_ | refine acode_region ?_)
  refine aops_mk tok ac.length rfl rfl rfl rfl rfl rfl (by show _ * 1 ≤ _; omega) (by omega) rfl rfl rfl fun bo => ?_
  repeat (first | refine aops_end ?_ | refine aops_p tok rfl rfl rfl rfl ?_ | refine acode_seq ?_ | refine acode_region ?_ | refine acode_block ?_)
  refine acode_loopS (ι := List Bool × Bool) (fun q => [(1, .pp (rawC nx ac m)), (3, .own (some bo) ac.length ac.length), (4, .bool q.2)]) (fun q => ⟨some bo, ac.length * 1, bools q.1⟩ :: M) (fun q => q.1.count false + (if q.2 then 1 else 0)) (fun q => q.1.length = ac.length ∧ (q.2 = false → ∀ i, i < ac.length → q.1.getD i false = false → usP nx ac q.1 i 256 = false)) (List.replicate ac.length false, true) ⟨by simp, fun e => by cases e⟩ ⟨rfl, rfl, rfl, trivial⟩ (by rw [← bools_zeros]; rfl) ?_
  rintro ⟨o, more⟩ ⟨hol, hcl⟩
  simp only at hol hcl ⊢
  cases more with
  | false =>
    have hcl := hcl rfl
    repeat' (first | refine aops_end ?_ | refine aops_p tok rfl rfl rfl rfl ?_ | refine acode_if rfl ?_ | refine acode_seq ?_ | refine acode_region ?_)
    refine acode_exit ?_
    repeat (first | refine exit_then ?_ | refine exit_here ?_ | refine then_n ?_)
    repeat (first | refine aops_end ?_ | refine aops_p tok rfl rfl rfl rfl ?_ | refine acode_seq ?_ | refine acode_region ?_)
    refine acode_ret ?_
    skip
    exact ⟨_, ⟨o, bo, ⟨hol, fun i hi hf => usP_no (hcl i hi hf)⟩, rfl, by rw [hol]⟩, resOf_tmp (by rw [hol]; rfl)⟩
  | true =>
    clear hcl
    repeat' (first | refine aops_end ?_ | refine aops_p tok rfl rfl rfl rfl ?_ | refine acode_it rfl ?_ | refine acode_seq ?_ | refine acode_region ?_ | refine acode_block ?_ | refine acode_skip ?_ | refine then_n ?_)
    refine acode_loopS (ι := Nat × List Bool × Bool) (fun q => [(1, .pp (rawC nx ac m)), (3, .own (some bo) ac.length ac.length), (4, .bool q.2.2), (5, .int .i64 q.1)]) (fun q => ⟨some bo, ac.length * 1, bools q.2.1⟩ :: M) (fun q => ac.length - q.1) (fun q => q.1 ≤ ac.length ∧ q.2.1.length = ac.length ∧ (q.2.2 = true → q.2.1.count false < o.count false) ∧ (q.2.2 = false → q.2.1 = o ∧ ∀ i, i < q.1 → o.getD i false = false → usP nx ac o i 256 = false)) (0, o, false) ⟨Nat.zero_le _, hol, (fun e => by cases e), fun _ => ⟨rfl, fun i hi => absurd hi (Nat.not_lt_zero i)⟩⟩ ⟨rfl, rfl, rfl, rfl, trivial⟩ rfl ?_
    rintro ⟨i, o1, m1⟩ ⟨hi, ho1, hm1, hm0⟩
    simp only at hi ho1 hm1 hm0 ⊢
    by_cases hil : i < ac.length
    · have hai : ac[i]? = some (ac.getD i 0) := by rw [List.getD_eq_getElem?_getD, List.getElem?_eq_getElem hil]; rfl
      have hua : usP nx ac o1 i 0 = decide (0 ≤ ac.getD i 0) := by unfold usP; simp
      generalize ac.getD i 0 = a at *
      repeat' (first | refine aops_end ?_ | refine aops_pbt tok rfl (by first | omega | decide) rfl rfl rfl ?_ | refine aops_p tok rfl rfl rfl rfl ?_ | refine acode_it rfl ?_ | refine acode_seq ?_ | refine acode_region ?_ | refine acode_block ?_ | refine acode_skip ?_ | refine then_n ?_)
      all_goals try (exfalso; omega)
      refine aops_ix tok [.int .i64 a] rfl rfl rfl rfl (by omega) (by omega) (by simp) (ints_at (by simpa using hai)) rfl rfl rfl ?_
      repeat (refine aops_p tok rfl rfl rfl rfl ?_)
      refine aops_end ?_
      refine acode_seq ?_
      refine acode_joinI (ι := Unit) (fun _ => [(1, .pp (rawC nx ac m)), (3, .own (some bo) ac.length ac.length), (4, .bool m1), (5, .int .i64 i), (6, .bool (usP nx ac o1 i 256))]) (fun _ => ⟨some bo, ac.length * 1, bools o1⟩ :: M) (fun _ => True) ?_ ?_
      · repeat (first | refine aops_end ?_ | refine aops_p tok rfl rfl rfl rfl ?_ | refine acode_seq ?_ | refine acode_region ?_ | refine acode_block ?_)
        refine acode_loopS (ι := Nat) (fun c => [(1, .pp (rawC nx ac m)), (3, .own (some bo) ac.length ac.length), (4, .bool m1), (5, .int .i64 i), (6, .bool (usP nx ac o1 i c)), (7, .int .i64 c)]) (fun _ => ⟨some bo, ac.length * 1, bools o1⟩ :: M) (fun c => 256 - c) (fun c => c ≤ 256) 0 (by omega) ⟨rfl, rfl, rfl, rfl, by rw [hua]; rfl, rfl, trivial⟩ rfl ?_
        rintro c hc
        cases hu : usP nx ac o1 i c with
        | true =>
          have hfin := usP_mono hc hu
          repeat' (first | refine aops_end ?_ | refine aops_o rfl rfl rfl ?_ | (refine aops_pd tok rfl rfl rfl rfl ?_ ?_ <;> intro e_) | refine aops_p tok rfl rfl rfl rfl ?_ | refine acode_if rfl ?_ | refine acode_seq ?_ | refine acode_region ?_)
          all_goals
            refine acode_exit ?_
            repeat (first | refine exit_then ?_ | refine exit_here ?_ | refine then_n ?_)
            exact ⟨(), trivial, ⟨rfl, rfl, rfl, rfl, by rw [hfin]; rfl, trivial⟩, rfl⟩
        | false =>
          by_cases hc2 : c < 256
          · obtain ⟨r1, e1, e2, e3, e4, e5⟩ := h.at (show i < nx.length by omega) hc2
            have hsu := usP_succ (nx := nx) (ac := ac) (ok := o1) (j := i) (c := c)
            rw [hu, Bool.false_or] at hsu
            unfold usC at hsu
            generalize cellI nx i c = v at *
            by_cases hv : 0 ≤ v
            · obtain ⟨z, hz⟩ : ∃ z, o1[v.toNat]? = some z := ⟨o1[v.toNat]'(by omega), List.getElem?_eq_getElem (by omega)⟩
              have hzd : o1.getD v.toNat false = z := by rw [List.getD_eq_getElem?_getD, hz]; rfl
              rw [decide_eq_true hv, Bool.true_and, hzd] at hsu
              repeat' (first | refine aops_end ?_ | refine aops_pbt tok rfl (by first | omega | decide) rfl rfl rfl ?_ | refine aops_p tok rfl rfl rfl rfl ?_ | refine acode_it rfl ?_ | refine acode_seq ?_ | refine acode_region ?_ | refine acode_block ?_ | refine acode_skip ?_ | refine then_n ?_)
              all_goals try (exfalso; omega)
              refine aops_ix tok [.psl r1.length (ints r1)] rfl rfl rfl rfl (by omega) (by omega) (by simp) (row_cell (by simpa using e1)) rfl rfl rfl ?_
              repeat (refine aops_p tok rfl rfl rfl rfl ?_)
              refine aops_ix tok [.int .i64 v] rfl rfl rfl rfl (by omega) (by omega) (by simp) (ints_at (by simpa using e3)) rfl rfl rfl ?_
              repeat' (first | refine aops_pbt tok rfl (by first | omega | decide) rfl rfl rfl ?_ | refine aops_p tok rfl rfl rfl rfl ?_)
              all_goals try (exfalso; omega)
              refine aops_ix tok [.psl r1.length (ints r1)] rfl rfl rfl rfl (by omega) (by omega) (by simp) (row_cell (by simpa using e1)) rfl rfl rfl ?_
              repeat (refine aops_p tok rfl rfl rfl rfl ?_)
              refine aops_ix tok [.int .i64 v] rfl rfl rfl rfl (by omega) (by omega) (by simp) (ints_at (by simpa using e3)) rfl rfl rfl ?_
              repeat (refine aops_p tok rfl rfl rfl rfl ?_)
              refine aops_ixo tok rfl rfl rfl rfl hv (by omega) rfl rfl rfl ?_
              refine aops_ld tok 0 (y := .bool z) rfl rfl rfl rfl (by rw [headed_eq]; exact bools_get hz) rfl rfl rfl ?_
              repeat (first | refine aops_end ?_ | refine aops_endb ?_ | refine aops_a tok rfl (by omega) (by omega) rfl rfl rfl ?_ | refine aops_p tok rfl rfl rfl rfl ?_ | refine acode_region ?_ | refine then_n ?_)
              exact ⟨c + 1, by omega, by omega, ⟨rfl, rfl, rfl, rfl, by rw [hsu]; rfl, rfl, trivial⟩, rfl⟩
            · rw [decide_eq_false hv, Bool.false_and] at hsu
              repeat' (first | refine aops_end ?_ | refine aops_pbt tok rfl (by first | omega | decide) rfl rfl rfl ?_ | refine aops_p tok rfl rfl rfl rfl ?_ | refine acode_it rfl ?_ | refine acode_seq ?_ | refine acode_region ?_ | refine acode_block ?_ | refine acode_skip ?_ | refine then_n ?_)
              all_goals try (exfalso; omega)
              refine aops_ix tok [.psl r1.length (ints r1)] rfl rfl rfl rfl (by omega) (by omega) (by simp) (row_cell (by simpa using e1)) rfl rfl rfl ?_
              repeat (refine aops_p tok rfl rfl rfl rfl ?_)
              refine aops_ix tok [.int .i64 v] rfl rfl rfl rfl (by omega) (by omega) (by simp) (ints_at (by simpa using e3)) rfl rfl rfl ?_
              repeat' (first | refine aops_end ?_ | refine aops_endb ?_ | refine aops_o rfl rfl rfl ?_ | refine aops_a tok rfl (by omega) (by omega) rfl rfl rfl ?_ | refine aops_pbf tok rfl (by first | omega | decide) rfl rfl rfl ?_ | refine aops_p tok rfl rfl rfl rfl ?_ | refine acode_region ?_ | refine then_n ?_)
              all_goals try (exfalso; omega)
              exact ⟨c + 1, by omega, by omega, ⟨rfl, rfl, rfl, rfl, by rw [hsu]; rfl, rfl, trivial⟩, rfl⟩
          · obtain rfl : c = 256 := by omega
            repeat' (first | refine aops_end ?_ | refine aops_o rfl rfl rfl ?_ | refine aops_pbf tok rfl (by first | omega | decide) rfl rfl rfl ?_ | refine aops_p tok rfl rfl rfl rfl ?_ | refine acode_if rfl ?_ | refine acode_seq ?_ | refine acode_region ?_)
            all_goals try (exfalso; omega)
            refine acode_exit ?_
            repeat (first | refine exit_then ?_ | refine exit_here ?_ | refine then_n ?_)
            exact ⟨(), trivial, ⟨rfl, rfl, rfl, rfl, by rw [hu]; rfl, trivial⟩, rfl⟩
      rintro - -
      obtain ⟨z, hz⟩ : ∃ z, o1[i]? = some z := ⟨o1[i]'(by omega), List.getElem?_eq_getElem (by omega)⟩
      have hzd : o1.getD i false = z := by rw [List.getD_eq_getElem?_getD, hz]; rfl
      cases hu : usP nx ac o1 i 256 with
      | false =>
        repeat' (first | refine aops_end ?_ | refine aops_o rfl rfl rfl ?_ | refine aops_a tok rfl (by omega) (by omega) rfl rfl rfl ?_ | refine aops_p tok rfl rfl rfl rfl ?_ | refine acode_if rfl ?_ | refine acode_seq ?_ | refine acode_region ?_ | refine acode_skip ?_ | refine then_n ?_ | refine block_n ?_)
        refine ⟨(i + 1, o1, m1), ⟨by simp only; omega, ho1, hm1, fun e => ?_⟩, by simp only; omega, ⟨rfl, rfl, rfl, rfl, trivial⟩, rfl⟩
        obtain ⟨k1, k2⟩ := hm0 e
        refine ⟨k1, fun j hj hf => ?_⟩
        by_cases hji : j = i
        · rw [hji, ← k1]; exact hu
        · exact k2 j (by simp only at hj; omega) hf
      | true =>
        repeat' (first | refine aops_p tok rfl rfl rfl rfl ?_ | refine acode_seq ?_ | refine acode_region ?_)
        refine aops_ixo tok rfl rfl rfl rfl (by omega) (by omega) rfl rfl rfl ?_
        refine aops_ld tok 0 (y := .bool z) rfl rfl rfl rfl (by rw [headed_eq]; exact bools_get (j := i) (by simpa using hz)) rfl rfl rfl ?_
        cases z with
        | true =>
          repeat' (first | refine aops_end ?_ | refine aops_a tok rfl (by omega) (by omega) rfl rfl rfl ?_ | refine aops_p tok rfl rfl rfl rfl ?_ | refine acode_if rfl ?_ | refine acode_region ?_ | refine acode_skip ?_ | refine then_n ?_ | refine block_n ?_)
          refine ⟨(i + 1, o1, m1), ⟨by simp only; omega, ho1, hm1, fun e => ?_⟩, by simp only; omega, ⟨rfl, rfl, rfl, rfl, trivial⟩, rfl⟩
          obtain ⟨k1, k2⟩ := hm0 e
          refine ⟨k1, fun j hj hf => ?_⟩
          by_cases hji : j = i
          · rw [hji, ← k1, hzd] at hf; cases hf
          · exact k2 j (by simp only at hj; omega) hf
        | false =>
          have hcnt := set_cnt hz
          repeat' (first | refine aops_end ?_ | refine aops_p tok rfl rfl rfl rfl ?_ | refine acode_it rfl ?_ | refine acode_seq ?_ | refine acode_region ?_)
          refine aops_ixo tok rfl rfl rfl rfl (by omega) (by omega) rfl rfl rfl ?_
          refine aops_stk tok 0 (bools (o1.set i true)) (⟨some bo, ac.length * 1, bools (o1.set i true)⟩ :: M) rfl rfl rfl rfl rfl rfl (by show _ * 1 + 1 ≤ _; rw [bools_len]; omega) (bools_set (j := ((i : Nat) : Int).toNat) (by omega) true) rfl rfl rfl ?_
          repeat (first | refine aops_end ?_ | refine aops_endb ?_ | refine aops_a tok rfl (by omega) (by omega) rfl rfl rfl ?_ | refine aops_p tok rfl rfl rfl rfl ?_ | refine acode_region ?_ | refine then_n ?_)
          refine ⟨(i + 1, o1.set i true, true), ⟨by simp only; omega, by simp only [List.length_set]; exact ho1, fun _ => ?_, fun e => by cases e⟩, by simp only; omega, ⟨rfl, rfl, rfl, rfl, trivial⟩, rfl⟩
          show (o1.set i true).count false < o.count false
          cases m1 with
          | true => have := hm1 rfl; omega
          | false => obtain ⟨k1, _⟩ := hm0 rfl; rw [← k1]; exact hcnt
    · obtain rfl : i = ac.length := by omega
      repeat' (first | refine aops_end ?_ | refine aops_pbf tok rfl (by first | omega | decide) rfl rfl rfl ?_ | refine aops_p tok rfl rfl rfl rfl ?_ | refine acode_if rfl ?_ | refine acode_seq ?_ | refine acode_region ?_)
      all_goals try (exfalso; omega)
      refine acode_exit ?_
      repeat (first | refine exit_then ?_ | refine exit_here ?_ | refine then_n ?_ | refine block_n ?_)
      skip
      refine ⟨(o1, m1), ⟨ho1, fun e => ?_⟩, ?_, ⟨rfl, rfl, rfl, trivial⟩, rfl⟩
      · obtain ⟨k1, k2⟩ := hm0 e
        intro j hj hf
        simp only at hf ⊢
        rw [k1] at hf ⊢
        exact k2 j hj hf
      · simp only
        cases m1 with
        | true => have := hm1 rfl; simp only [if_true]; omega
        | false => obtain ⟨k1, _⟩ := hm0 rfl; rw [k1]; simp
end Go.Proofs.Ytobpbelgihilpaa.Ab
/- Grammars in plain terms, and as arguments. No condition. -/
set_option linter.unusedVariables false
set_option linter.unusedSimpArgs false
namespace Go.Proofs.Ytobpbelgihilpaa.Ab
structure Ru where
  left : Int
  right : List Int
  dyn : Int
structure Gr where
  names : Int
  kinds : Int
  start : Int
  rules : List Ru
  forbid : List (Int × Int × Int)
  rc : List Int
  kc : List Int
structure GrOk (g : Gr) : Prop where
  rc : g.rc.length ≤ 9223372036854775807
  kc : g.kc.length ≤ 9223372036854775807
  fo : g.forbid.length ≤ 9223372036854775807
  rl : g.rules.length ≤ 9223372036854775807
  rr : ∀ r ∈ g.rules, r.right.length ≤ 9223372036854775807 ∧ ∀ s ∈ r.right, rng s

end Go.Proofs.Ytobpbelgihilpaa.Ab

/- Texts of this proof, one behind the other (AbP, Gra0, AbO, AbQ, AbR, AbS, AbT, Chk1, Chg1, For1, For0, For2, For3a, ChA, Tre1, Tre2, Fil2, Chs1, AbV, AbZ, AbW, Fil1, Ab8, Cu1, Unf1, ChB0, Ac0). No condition. -/
import Derived.Test.YtbnhmioijeagiaaChLstP1
import Derived.Laws.StructEq
import Derived.WideKeyRuns
import Derived.MapKept
import Derived.LaidEqlPtr
/- Rows of numbers as cells; truths. No condition. -/
set_option linter.unusedVariables false
set_option linter.unusedSimpArgs false
namespace Go.Proofs.Ytbnhmioijeagiaa.Ab
def ints (l : List Int) : List A := l.map (A.int .i64)
def rng (n : Int) : Prop := -9223372036854775808 ≤ n ∧ n ≤ 9223372036854775807
theorem ints_at {l : List Int} {j : Int} {x : Int} (h : l[j.toNat]? = some x) : [A.int .i64 x] <+: (ints l).drop (j.toNat * 1) := by
  rw [Nat.mul_one]
  have hlt : j.toNat < l.length := (List.getElem?_eq_some_iff.1 h).1
  rw [List.drop_eq_getElem_cons (by simpa [ints] using hlt)]
  have h2 : (ints l)[j.toNat]? = some (.int .i64 x) := by simp [ints, h]
  rw [List.getElem?_eq_some_iff] at h2
  obtain ⟨h3, h4⟩ := h2
  rw [h4]
  exact ⟨(ints l).drop (j.toNat + 1), rfl⟩
theorem bt {p : Prop} [Decidable p] (h : p) : A.bool true = A.bool (decide p) := by rw [decide_eq_true h]
theorem bf {p : Prop} [Decidable p] (h : ¬ p) : A.bool false = A.bool (decide p) := by rw [decide_eq_false h]
theorem ints_len (l : List Int) : (ints l).length = l.length := by simp [ints]
theorem ints_len1 (l : List Int) : (ints l).length = l.length * 1 := by simp [ints]
theorem ints_app (l m : List Int) : ints (l ++ m) = ints l ++ ints m := by simp [ints]
theorem ints_cell (l : List Int) : (ints l).all A.isCell = true := by simp [ints, A.isCell]
theorem ints_zeros (n : Nat) : zerosA [A.int .i64 0] n = ints (List.replicate n 0) := by rw [zerosA_one]; simp [ints]
/-- A row's number, as the cell is loaded. -/
theorem ints_get {l : List Int} {j : Nat} {x : Int} (h : l[j]? = some x) : (ints l)[j]? = some (A.int .i64 x) := by simp [ints, h]
theorem ints_set {l : List Int} {j : Nat} (h : j < l.length) (x : Int) : (ints l).take j ++ ([A.int .i64 x] ++ (ints l).drop (j + 1)) = ints (l.set j x) := by
  rw [List.set_eq_take_append_cons_drop, if_pos h]; simp [ints]
theorem ints_set1 {l : List Int} {j : Nat} (h : j < l.length) (x : Int) : (ints l).take (j * 1) ++ ([A.int .i64 x] ++ (ints l).drop (j * 1 + 1)) = ints (l.set j x) := by
  rw [Nat.mul_one]; exact ints_set h x
theorem encs_len {α : Type} {e : α → List A} {s : Nat} (hs : ∀ x, (e x).length = s) (l : List α) : (encs e l).length = l.length * s := by
  induction l with
  | nil => simp [encs]
  | cons x l ih => simp only [encs, List.flatMap_cons, List.length_append, hs, List.length_cons] at *; rw [ih, Nat.add_mul]; omega
theorem encs_app {α : Type} (e : α → List A) (l m : List α) : encs e (l ++ m) = encs e l ++ encs e m := by simp [encs]
theorem encs_cell {α : Type} {e : α → List A} (h : ∀ x, (e x).all A.isCell = true) (l : List α) : (encs e l).all A.isCell = true := by
  induction l with
  | nil => rfl
  | cons x l ih => simp only [encs, List.flatMap_cons, List.all_append, h, Bool.true_and] at *; exact ih
end Go.Proofs.Ytbnhmioijeagiaa.Ab
/- Grammars in plain terms, and as arguments. No condition. -/
set_option linter.unusedVariables false
set_option linter.unusedSimpArgs false
namespace Go.Proofs.Ytbnhmioijeagiaa.Ab
structure Ru where
  left : Int
  right : List Int
  dyn : Int
def ruC (r : Ru) : List A := [.int .i64 r.left, .psl r.right.length (ints r.right), .int .i64 r.dyn]
structure Gr where
  names : Int
  kinds : Int
  start : Int
  rules : List Ru
  forbid : List (Int × Int × Int)
  rc : List Int
  kc : List Int
def f3C (f : Int × Int × Int) : List A := [.int .i64 f.1, .int .i64 f.2.1, .int .i64 f.2.2]
def grC (g : Gr) : List A := [.int .i64 g.names, .int .i64 g.kinds, .int .i64 g.start, .psl g.rules.length (encs ruC g.rules), .psl g.forbid.length (encs f3C g.forbid), .psl g.rc.length (ints g.rc), .psl g.kc.length (ints g.kc)]
def grA (g : Gr) : A := .agg (grC g)

structure GrOk (g : Gr) : Prop where
  rc : g.rc.length ≤ 9223372036854775807
  kc : g.kc.length ≤ 9223372036854775807
  fo : g.forbid.length ≤ 9223372036854775807
  rl : g.rules.length ≤ 9223372036854775807
  rr : ∀ r ∈ g.rules, r.right.length ≤ 9223372036854775807 ∧ ∀ s ∈ r.right, rng s

theorem good_arr {T : List TI} {f t n e : Nat} {x : A} (hk : kindOf T t = some (.array n e)) (h : Good T f t x) : ∃ (f' : Nat) (css : List (List A)), x = .agg css.flatten ∧ css.length = n ∧ ∀ c ∈ css, ∃ y, Good T f' e y ∧ y.cs = c := by
  cases f with
  | zero => exact h.elim
  | succ f =>
    simp only [Good, hk] at h
    obtain ⟨css, rfl, hl, hc⟩ := h
    exact ⟨f, css, rfl, hl, hc⟩
theorem good_f3 {f : Nat} {x : A} (h : Good T f 67 x) : ∃ r, x = .agg (f3C r) ∧ True := by
  obtain ⟨f', css, rfl, hl, hc⟩ := good_arr (n := 3) (e := 3) rfl h
  match css, hl with
  | [c0, c1, c2], _ =>
    obtain ⟨y0, g0, rfl⟩ := hc c0 (by simp)
    obtain ⟨y1, g1, rfl⟩ := hc c1 (by simp)
    obtain ⟨y2, g2, rfl⟩ := hc c2 (by simp)
    obtain ⟨a, rfl, _⟩ := good_int (k := .i64) rfl g0
    obtain ⟨b, rfl, _⟩ := good_int (k := .i64) rfl g1
    obtain ⟨c, rfl, _⟩ := good_int (k := .i64) rfl g2
    exact ⟨(a, b, c), rfl, trivial⟩
theorem good_ru {f : Nat} {x : A} (h : Good T f 66 x) : ∃ r, x = .agg (ruC r) ∧ (r.right.length ≤ 9223372036854775807 ∧ ∀ s ∈ r.right, rng s) := by
  obtain ⟨f', ys, rfl, y0, _, rfl, g0, y1, _, rfl, g1, y2, _, rfl, g2, rfl⟩ := good_struct (fs := [(0, 3), (1, 24), (2, 3)]) rfl h
  obtain ⟨a, rfl, _⟩ := good_int (k := .i64) rfl g0
  obtain ⟨l, rfl, hl, hw⟩ := good_ints' (e := 3) (k := .i64) rfl rfl g1
  obtain ⟨d, rfl, _⟩ := good_int (k := .i64) rfl g2
  exact ⟨⟨a, l, d⟩, rfl, hl, fun s hs => wf_i64 (hw s hs)⟩
theorem good_gr {f : Nat} {x : A} (h : Good T f 26 x) : ∃ g, x = grA g ∧ GrOk g := by
  obtain ⟨f', ys, rfl, y0, _, rfl, g0, y1, _, rfl, g1, y2, _, rfl, g2, y3, _, rfl, g3, y4, _, rfl, g4, y5, _, rfl, g5, y6, _, rfl, g6, rfl⟩ := good_struct (fs := [(0, 3), (1, 3), (2, 3), (3, 22), (4, 23), (5, 24), (6, 24)]) rfl h
  obtain ⟨a, rfl, _⟩ := good_int (k := .i64) rfl g0
  obtain ⟨b, rfl, _⟩ := good_int (k := .i64) rfl g1
  obtain ⟨c, rfl, _⟩ := good_int (k := .i64) rfl g2
  obtain ⟨rs, rfl, h3, h3'⟩ := good_encs (g := fun r => A.agg (ruC r)) (c := ruC) (p := fun r => r.right.length ≤ 9223372036854775807 ∧ ∀ s ∈ r.right, rng s) (e := 66) rfl (fun f y hy => good_ru hy) (fun _ => rfl) g3
  obtain ⟨fs, rfl, h4, _⟩ := good_encs (g := fun r => A.agg (f3C r)) (c := f3C) (p := fun _ => True) (e := 67) rfl (fun f y hy => good_f3 hy) (fun _ => rfl) g4
  obtain ⟨l5, rfl, h5⟩ := good_ints (e := 3) (k := .i64) rfl rfl g5
  obtain ⟨l6, rfl, h6⟩ := good_ints (e := 3) (k := .i64) rfl rfl g6
  exact ⟨⟨a, b, c, rs, fs, l5, l6⟩, rfl, h5, h6, h4, h3, h3'⟩

end Go.Proofs.Ytbnhmioijeagiaa.Ab
/- Regions whose order is drawn, of which some operations make something of one's own. No condition. -/
set_option linter.unusedVariables false
set_option linter.unusedSimpArgs false
namespace Go.Proofs.Ytbnhmioijeagiaa.Ab
section
variable {P : Program} {T : List TI} {N : Nat} {ops : Array Oper} {rest : List Oper} {o : Oper} {Q : Exit → St → Prop} {E F : Env} {M : List Ob}

/-- k waits for j, be it by others between. -/
def waitsT (ops : Array Oper) : Nat → Nat → Nat → Bool
  | 0, _, _ => false
  | f + 1, k, j => Region.waitsFor .any ops k j || (List.range k).any fun m => Region.waitsFor .any ops k m && waitsT ops f m j
/-- An operation that makes an object: what it yields hangs on the block. -/
def Makes (P : Program) (N : Nat) (ops : Array Oper) (o : Oper) (x : List Nat → A) (M2 : List Nat → List Ob) (F : Env) (M : List Ob) : Prop :=
  ∀ E, (∀ t ∈ o.looksAt ops, get E t = get F t) → ∀ (rest : List Oper) (Q : Exit → St → Prop), (∀ b, AOps P N ops rest Q ⟨put E o.dst (x b), M2 b⟩) → AOps P N ops (o :: rest) Q ⟨E, M⟩
/-- kp: objects that stay as they are, whatever the region does.  -/
inductive SeqO (P : Program) (N : Nat) (ops : Array Oper) (Q : Exit → St → Prop) (kp : List Ob) (al : List Nat) : Nat → Env → List Ob → Nat → List Oper → Prop where
  | done {i : Nat} {F : Env} {M : List Ob} {l : List Oper} (h : AOps P N ops l Q ⟨F, M⟩) : SeqO P N ops Q kp al i F M 0 l
  | cons {i : Nat} {F : Env} {M : List Ob} {n : Nat} {o : Oper} {l : List Oper} {x : A} (hi : al.contains i = false) (h : ∀ M', (M' = M ∨ (∀ o ∈ kp, o ∈ M') ∧ ∃ j ∈ al, i < j) → Yields P N ops o x F M') (t : SeqO P N ops Q kp al (i + 1) (put F o.dst x) M n l) : SeqO P N ops Q kp al i F M (n + 1) (o :: l)
  | make {i : Nat} {F : Env} {M : List Ob} {n : Nat} {o : Oper} {l : List Oper} {x : List Nat → A} {M2 : List Nat → List Ob} (hi : al.contains i = true) (h : Makes P N ops o x M2 F M) (hk : ∀ z, ∀ o ∈ kp, o ∈ M2 z) (t : ∀ b, SeqO P N ops Q kp al (i + 1) (put F o.dst (x b)) (M2 b) n l) : SeqO P N ops Q kp al i F M (n + 1) (o :: l)

theorem SeqO.ofT {kp : List Ob} {al : List Nat} {n : Nat} {l : List Oper} (h : SeqT P N ops Q M E n l) : ∀ i, (∀ j ∈ al, j < i) → SeqO P N ops Q kp al i E M n l := by
  induction h with
  | done h => exact fun i _ => .done h
  | cons h t ih =>
    intro i hi
    refine .cons ?_ (fun M' hp => ?_) (ih (i + 1) fun j hj => by have := hi j hj; omega)
    · cases hb : al.contains i with
      | false => rfl
      | true => have := hi i (by simpa using hb); omega
    · rcases hp with rfl | ⟨_, j, hj, hij⟩
      · exact h
      · have := hi j hj; omega

structure SplitO (P : Program) (N : Nat) (ops : Array Oper) (Q : Exit → St → Prop) (kp : List Ob) (al : List Nat) (i : Nat) (E : Env) (M : List Ob) (n : Nat) (l : List Oper) (vals : (Nat → List Nat) → Nat → A) (Fs : (Nat → List Nat) → Nat → Env) (Ms : (Nat → List Nat) → Nat → List Ob) : Prop where
  f0 : ∀ β, Fs β 0 = E
  m0 : ∀ β, Ms β 0 = M
  fb : ∀ β β' k, (∀ j, j < k → β j = β' j) → Fs β k = Fs β' k ∧ Ms β k = Ms β' k
  vb : ∀ β β' k, (∀ j, j ≤ k → β j = β' j) → vals β k = vals β' k
  step : ∀ k o, k < n → l[k]? = some o → ∀ β, Fs β (k + 1) = put (Fs β k) o.dst (vals β k) ∧
    ((al.contains (i + k) = false ∧ Ms β (k + 1) = Ms β k ∧ ∀ M', (M' = Ms β k ∨ (∀ o ∈ kp, o ∈ M') ∧ ∃ j ∈ al, i + k < j) → Yields P N ops o (vals β k) (Fs β k) M') ∨
     (al.contains (i + k) = true ∧ (∀ o ∈ kp, o ∈ Ms β (k + 1)) ∧ ∀ E, (∀ t ∈ o.looksAt ops, get E t = get (Fs β k) t) → ∀ (rest : List Oper) (Q : Exit → St → Prop), (∀ b, AOps P N ops rest Q ⟨put E o.dst (vals (fun j => if j = k then b else β j) k), Ms (fun j => if j = k then b else β j) (k + 1)⟩) → AOps P N ops (o :: rest) Q ⟨E, Ms β k⟩))
  last : ∀ β, AOps P N ops (l.drop n) Q ⟨Fs β n, Ms β n⟩

theorem SeqO.split {kp : List Ob} {al : List Nat} {i n : Nat} {l : List Oper} (h : SeqO P N ops Q kp al i E M n l) : ∃ vals Fs Ms, SplitO P N ops Q kp al i E M n l vals Fs Ms := by
  induction h with
  | @done i F M l h => exact ⟨fun _ _ => .any, fun _ _ => F, fun _ _ => M, fun _ => rfl, fun _ => rfl, fun _ _ _ _ => ⟨rfl, rfl⟩, fun _ _ _ _ => rfl, fun k o hk => by omega, fun _ => h⟩
  | @cons i F M n o l x hi h t ih =>
    obtain ⟨vals, Fs, Ms, s⟩ := ih
    refine ⟨fun β k => match k with | 0 => x | k + 1 => vals (fun j => β (j + 1)) k, fun β k => match k with | 0 => F | k + 1 => Fs (fun j => β (j + 1)) k, fun β k => match k with | 0 => M | k + 1 => Ms (fun j => β (j + 1)) k, fun _ => rfl, fun _ => rfl, fun β β' k hk => ?_, fun β β' k hk => ?_, fun k o' hk ho β => ?_, fun β => ?_⟩
    · cases k with
      | zero => exact ⟨rfl, rfl⟩
      | succ k => exact s.fb _ _ k fun j hj => hk (j + 1) (by omega)
    · cases k with
      | zero => rfl
      | succ k => exact s.vb _ _ k fun j hj => hk (j + 1) (by omega)
    · cases k with
      | zero =>
        simp at ho
        subst ho
        refine ⟨by simp only; rw [s.f0], .inl ⟨by simpa using hi, by simp only; rw [s.m0], fun M' hp => h M' (by simpa using hp)⟩⟩
      | succ k =>
        simp at ho
        obtain ⟨h1, h2⟩ := s.step k o' (by omega) ho fun j => β (j + 1)
        refine ⟨h1, ?_⟩
        rw [show i + (k + 1) = i + 1 + k from by omega]
        refine h2.imp id fun ⟨a1, a2, a3⟩ => ⟨a1, a2, fun E hE rest Q next => a3 E hE rest Q fun b => ?_⟩
        have := next b
        have e : (fun j => (fun j => if j = k + 1 then b else β j) (j + 1)) = fun j => if j = k then b else β (j + 1) := by funext j; simp
        simp only at this
        rw [← e]
        exact this
    · exact s.last _
  | @make i F M n o l x M2 hi h hkeep t ih =>
    obtain ⟨vals, ih⟩ := Classical.axiomOfChoice ih
    obtain ⟨Fs, ih⟩ := Classical.axiomOfChoice ih
    obtain ⟨Ms, s⟩ := Classical.axiomOfChoice ih
    refine ⟨fun β k => match k with | 0 => x (β 0) | k + 1 => vals (β 0) (fun j => β (j + 1)) k, fun β k => match k with | 0 => F | k + 1 => Fs (β 0) (fun j => β (j + 1)) k, fun β k => match k with | 0 => M | k + 1 => Ms (β 0) (fun j => β (j + 1)) k, fun _ => rfl, fun _ => rfl, fun β β' k hk => ?_, fun β β' k hk => ?_, fun k o' hk ho β => ?_, fun β => ?_⟩
    · cases k with
      | zero => exact ⟨rfl, rfl⟩
      | succ k => simp only; rw [hk 0 (by omega)]; exact (s _).fb _ _ k fun j hj => hk (j + 1) (by omega)
    · cases k with
      | zero => simp only; rw [hk 0 (by omega)]
      | succ k => simp only; rw [hk 0 (by omega)]; exact (s _).vb _ _ k fun j hj => hk (j + 1) (by omega)
    · cases k with
      | zero =>
        simp at ho
        subst ho
        refine ⟨by simp only; rw [(s _).f0], .inr ⟨by simpa using hi, by simp only; rw [(s _).m0]; exact hkeep _, fun E hE rest Q next => h E hE rest Q fun b => ?_⟩⟩
        have := next b
        simp only [if_true] at this
        rw [(s _).m0] at this
        exact this
      | succ k =>
        simp at ho
        obtain ⟨h1, h2⟩ := (s (β 0)).step k o' (by omega) ho fun j => β (j + 1)
        refine ⟨h1, ?_⟩
        rw [show i + (k + 1) = i + 1 + k from by omega]
        refine h2.imp id fun ⟨a1, a2, a3⟩ => ⟨a1, a2, fun E hE rest Q next => a3 E hE rest Q fun b => ?_⟩
        have := next b
        have e : (fun j => (fun j => if j = k + 1 then b else β j) (j + 1)) = fun j => if j = k then b else β (j + 1) := by funext j; simp
        simp only at this
        rw [← e]
        simpa using this
    · exact (s _).last _

theorem waitsT_listed {ops : Array Oper} {listed : Array Bool} (hcl : ∀ k j, listed.getD k false = true → Region.waitsFor .any ops k j = true → listed.getD j false = true) :
    ∀ (f k j : Nat), listed.getD k false = true → waitsT ops f k j = true → listed.getD j false = true
  | 0, _, _, _, h => by cases h
  | f + 1, k, j, hk, h => by
    simp only [waitsT, Bool.or_eq_true, List.any_eq_true, Bool.and_eq_true] at h
    rcases h with h | ⟨m, _, h1, h2⟩
    · exact hcl k j hk h
    · exact waitsT_listed hcl f m j (hcl k m hk h1) h2
/-- What one that is ready waits for is listed. -/
theorem waitsT_ready {ops : Array Oper} {listed : Array Bool} (hcl : ∀ k j, listed.getD k false = true → Region.waitsFor .any ops k j = true → listed.getD j false = true) {k : Nat} (hr : ∀ j, Region.waitsFor .any ops k j = true → listed.getD j false = true) :
    ∀ (f j : Nat), waitsT ops f k j = true → listed.getD j false = true
  | 0, _, h => by cases h
  | f + 1, j, h => by
    simp only [waitsT, Bool.or_eq_true, List.any_eq_true, Bool.and_eq_true] at h
    rcases h with h | ⟨m, _, h1, h2⟩
    · exact hr j h
    · exact waitsT_listed hcl f m j (hr m h1) h2

theorem getD_map_range (f : Nat → A) (n i : Nat) (h : i < n) : ((List.range n).map f).getD i .any = f i := by
  rw [List.getD_eq_getElem?_getD, List.getElem?_map, List.getElem?_range h]; rfl

/-! ### the rules of such a region: what only yields whatever else lies there, and what makes something -/
theorem seqO_y {kp : List Ob} {al : List Nat} {i : Nat} {l : List Oper} {n d : Nat} {x : A} (hi : al.contains i = false) (h : ∀ M', Yields P N ops o x F M') (hd : o.dst = some d) (next : SeqO P N ops Q kp al (i + 1) ((d, x) :: F) M n l) : SeqO P N ops Q kp al i F M (n + 1) (o :: l) := by
  refine SeqO.cons hi (fun M' _ => h M') ?_
  rw [hd]; exact next
theorem seqO_p (hT : TOk P T) {kp : List Ob} {al : List Nat} {i : Nat} {l : List Oper} {n : Nat} {x : A} {d : Nat} (hi : al.contains i = false) (h : headed (aval T F o.op) = some x) (hg : guardOn ops o F = some true) (hd : o.dst = some d) (hN : Nat.blt d N = true)
    (next : SeqO P N ops Q kp al (i + 1) ((d, x) :: F) M n l) : SeqO P N ops Q kp al i F M (n + 1) (o :: l) :=
  seqO_y hi (fun M' => yields_pure hT (by rw [← headed_eq (aval T F o.op)]; exact h) hg (by rw [hd]; exact hN)) hd next
theorem seqO_a (hT : TOk P T) {kp : List Ob} {al : List Nat} {i : Nat} {l : List Oper} {n : Nat} {z : Int} {d : Nat} (hi : al.contains i = false) (h : headed (aval T F o.op) = some (.int .i64 (IntKind.i64.wrap z))) (h0 : -9223372036854775808 ≤ z) (h1 : z ≤ 9223372036854775807) (hg : guardOn ops o F = some true) (hd : o.dst = some d) (hN : Nat.blt d N = true)
    (next : SeqO P N ops Q kp al (i + 1) ((d, .int .i64 z) :: F) M n l) : SeqO P N ops Q kp al i F M (n + 1) (o :: l) :=
  seqO_y hi (fun M' => yields_arith hT (by rw [← headed_eq (aval T F o.op)]; exact h) h0 h1 hg (by rw [hd]; exact hN)) hd next
theorem seqO_ix (hT : TOk P T) (pre : List A) {kp : List Ob} {al : List Nat} {q : Nat} {l : List Oper} {m : Nat} {t e d : Nat} {ei : TI} {x ix : Operand} {n : Nat} {cs : List A} {k : IntKind} {i : Int} (hi : al.contains q = false) (ho : o.op = .indexAddr t x ix) (hs : sliceOf T t = some (e, ei)) (hx : opA F x = .psl n cs) (hix : opA F ix = .int k i)
    (h0 : 0 ≤ i) (h1 : i < n) (hne : pre ≠ []) (hp : pre <+: cs.drop (i.toNat * ei.size)) (hg : guardOn ops o F = some true) (hd : o.dst = some d) (hN : Nat.blt d N = true)
    (next : SeqO P N ops Q kp al (q + 1) ((d, .pp pre) :: F) M m l) : SeqO P N ops Q kp al q F M (m + 1) (o :: l) :=
  seqO_y hi (fun M' => yields_index hT pre ho hs hx hix h0 h1 hne hp hg (by rw [hd]; exact hN)) hd next
theorem seqO_ixo (hT : TOk P T) {kp : List Ob} {al : List Nat} {q : Nat} {l : List Oper} {m : Nat} {t e d : Nat} {ei : TI} {x ix : Operand} {b n cap : Nat} {k : IntKind} {i : Int} (hi : al.contains q = false) (ho : o.op = .indexAddr t x ix) (hs : sliceOf T t = some (e, ei)) (hx : opA F x = .own (some b) n cap) (hix : opA F ix = .int k i)
    (h0 : 0 ≤ i) (h1 : i < n) (hg : guardOn ops o F = some true) (hd : o.dst = some d) (hN : Nat.blt d N = true)
    (next : SeqO P N ops Q kp al (q + 1) ((d, .ref b (i.toNat * ei.size)) :: F) M m l) : SeqO P N ops Q kp al q F M (m + 1) (o :: l) :=
  seqO_y hi (fun M' => yields_index_own hT ho hs hx hix h0 h1 hg (by rw [hd]; exact hN)) hd next
theorem seqT_ixo (hT : TOk P T) {l : List Oper} {m : Nat} {t e d : Nat} {ei : TI} {x ix : Operand} {b n cap : Nat} {k : IntKind} {i : Int} (ho : o.op = .indexAddr t x ix) (hs : sliceOf T t = some (e, ei)) (hx : opA F x = .own (some b) n cap) (hix : opA F ix = .int k i)
    (h0 : 0 ≤ i) (h1 : i < n) (hg : guardOn ops o F = some true) (hd : o.dst = some d) (hN : Nat.blt d N = true)
    (next : SeqT P N ops Q M ((d, .ref b (i.toNat * ei.size)) :: F) m l) : SeqT P N ops Q M F (m + 1) (o :: l) :=
  SeqT.cons (yields_index_own hT ho hs hx hix h0 h1 hg (by rw [hd]; exact hN)) (by rw [hd]; exact next)
/-- A load from one's own: it lies there whatever else does. -/
theorem seqO_ld (hT : TOk P T) (k : Nat) {kp : List Ob} {al : List Nat} {q : Nat} {l : List Oper} {n : Nat} {t d : Nat} {x : Operand} {b off : Nat} {i : TI} {y : A} {room : Nat} {cs : List A} (hi : al.contains q = false) (ho : o.op = .load t x) (hx : opA F x = .ref b off) (hk : known T t = some i)
    (hM : kp[k]? = some ⟨some b, room, cs⟩) (hkp : ∀ o ∈ kp, o ∈ M) (hy : headed (bif i.k.isAgg then (bif Nat.ble (off + i.size) cs.length then some (A.agg ((cs.drop off).take i.size)) else none) else cs[off]?) = some y)
    (hg : guardOn ops o F = some true) (hd : o.dst = some d) (hN : Nat.blt d N = true) (next : SeqO P N ops Q kp al (q + 1) ((d, y) :: F) M n l) : SeqO P N ops Q kp al q F M (n + 1) (o :: l) := by
  have hmem := List.mem_of_getElem? hM
  refine SeqO.cons (x := y) hi (fun M' hp => ?_) ?_
  · have hmem' : (⟨some b, room, cs⟩ : Ob) ∈ M' := by
      rcases hp with rfl | ⟨hp, _⟩
      · exact hkp _ hmem
      · exact hp _ hmem
    obtain ⟨k', hk', e⟩ := List.getElem_of_mem hmem'
    exact yields_load_own hT k' ho hx hk (by rw [List.getElem?_eq_getElem hk', e]) (by rw [← headed_eq (bif i.k.isAgg then _ else _)]; exact hy) hg (by rw [hd]; exact hN)
  rw [hd]; exact next
theorem seqO_call {kp : List Ob} {al : List Nat} {i : Nat} {l : List Oper} {n d : Nat} {g : Operand} {args : Array Operand} {tys : Array TypeId} {f : FuncId} {cap aS : List A} {fn : Func} (x : A) (hi : al.contains i = false) (hf : P.funcs[f]? = some fn) (ho : o.op = .call { callee := .value g, args, argTypes := tys }) (hgv : opA F g = .fn f cap)
    (hfn : callable fn = true) (has : args.toList.map (opA F) ++ cap = aS) (hc : ∀ M', ACalls P f aS M' (fun r M'' => r = x ∧ M'' = M')) (hg : guardOn ops o F = some true) (hd : o.dst = some d) (hN : Nat.blt d N = true)
    (next : SeqO P N ops Q kp al (i + 1) ((d, x) :: F) M n l) : SeqO P N ops Q kp al i F M (n + 1) (o :: l) :=
  seqO_y hi (fun M' => yields_call x hf ho hgv hfn has (hc M') hg (by rw [hd]; exact hN)) hd next
/-- The same, with what lies there at that place of the row. -/
theorem seqO_T {kp : List Ob} {al : List Nat} {i n : Nat} {l : List Oper} (hi : al.all (fun j => Nat.blt j i) = true) (h : SeqT P N ops Q M E n l) : SeqO P N ops Q kp al i E M n l :=
  SeqO.ofT h i fun j hj => by simpa using List.all_eq_true.1 hi j hj
theorem seqO_mk (hT : TOk P T) {kp : List Ob} {al : List Nat} {i : Nat} {ll : List Oper} {m : Nat} {t e d : Nat} {ei : TI} {l c : Operand} {kl kc : IntKind} {x : Int} (n : Nat) (hi : al.contains i = true) (ho : o.op = .makeSlice t l c) (hs : sliceOf T t = some (e, ei)) (hl : opA F l = .int kl x) (hc : opA F c = .int kc x) (hx : x = n)
    (hz : Nat.beq ei.zero.length ei.size = true) (hb : n * ei.bytes ≤ 281474976710656) (hn : n ≤ 140737488355328) (hkp : ∀ o ∈ kp, o ∈ M) (hg : guardOn ops o F = some true) (hd : o.dst = some d) (hN : Nat.blt d N = true)
    (next : ∀ b, SeqO P N ops Q kp al (i + 1) ((d, .own (some b) n n) :: F) (⟨some b, n * ei.size, zerosA (ei.zero.map ofZ) n⟩ :: M) m ll) : SeqO P N ops Q kp al i F M (m + 1) (o :: ll) := by
  refine SeqO.make (x := fun z => .own (some (z.headD 0)) n n) (M2 := fun z => ⟨some (z.headD 0), n * ei.size, zerosA (ei.zero.map ofZ) n⟩ :: M) hi (fun E hE rest Q next => ?_) (fun z o ho => List.mem_cons_of_mem _ (hkp o ho)) fun b => ?_
  · exact aops_mk hT n ho hs ((agree_op hE (by rw [ho]; simp [Op.operands])).trans hl) ((agree_op hE (by rw [ho]; simp [Op.operands])).trans hc) hx hz hb hn ((agree_guard hE).trans hg) hd hN fun b => by have := next [b]; rwa [hd] at this
  · rw [hd]; exact next _
theorem seqO_boxo {kp : List Ob} {al : List Nat} {i : Nat} {ll : List Oper} {m : Nat} {e d : Nat} {x : Operand} {y : A} (hi : al.contains i = true) (ho : o.op = .box e x) (hx : headed (some (opA F x)) = some y) (hc : cellsOk y = true) (hkp : ∀ o ∈ kp, o ∈ M) (hg : guardOn ops o F = some true) (hd : o.dst = some d) (hN : Nat.blt d N = true)
    {cs : List A} (hcs : normL y.cs = some cs) (next : ∀ b, SeqO P N ops Q kp al (i + 1) ((d, .ref b 0) :: F) (⟨some b, cs.length, cs⟩ :: M) m ll) : SeqO P N ops Q kp al i F M (m + 1) (o :: ll) := by
  refine SeqO.make (x := fun z => .ref (z.headD 0) 0) (M2 := fun z => ⟨some (z.headD 0), cs.length, cs⟩ :: M) hi (fun E hE rest Q next => ?_) (fun z o ho => List.mem_cons_of_mem _ (hkp o ho)) fun b => ?_
  · refine aops_boxo ho ?_ hc ((agree_guard hE).trans hg) hd hN hcs fun b => by have := next [b]; rwa [hd] at this
    rw [agree_op hE (by rw [ho]; simp [Op.operands])]; exact hx
  · rw [hd]; exact next _
/-- A call that makes something. -/
theorem seqO_callm {kp : List Ob} {al : List Nat} {i : Nat} {ll : List Oper} {n d : Nat} {g : Operand} {args : Array Operand} {tys : Array TypeId} {f : FuncId} {cap aS : List A} {fn : Func} (x : List Nat → A) (obs : List Nat → List Ob) (hi : al.contains i = true) (hf : P.funcs[f]? = some fn) (ho : o.op = .call { callee := .value g, args, argTypes := tys }) (hgv : opA F g = .fn f cap)
    (hfn : callable fn = true) (has : args.toList.map (opA F) ++ cap = aS) (hc : ACalls P f aS M (fun r M' => ∃ z, r = x z ∧ M' = obs z ++ M)) (hkp : ∀ o ∈ kp, o ∈ M) (hg : guardOn ops o F = some true) (hd : o.dst = some d) (hN : Nat.blt d N = true)
    (next : ∀ z, SeqO P N ops Q kp al (i + 1) ((d, x z) :: F) (obs z ++ M) n ll) : SeqO P N ops Q kp al i F M (n + 1) (o :: ll) := by
  refine SeqO.make (x := x) (M2 := fun z => obs z ++ M) hi (fun E hE rest Q next => ?_) (fun z o ho => List.mem_append_right _ (hkp o ho)) fun b => ?_
  · refine aops_call hf ho ((agree_op hE (by rw [ho]; simp [Op.operands, Call.operands])).trans hgv) hfn (by rw [map_congr_ops (E := E) (F := F) (fun y hy => agree_op hE (by rw [ho]; simp [Op.operands, Call.operands, hy]))]; exact has) hc ((agree_guard hE).trans hg) (by rw [hd]; exact hN) ?_
    rintro y M' ⟨z, rfl, rfl⟩
    exact next z
  · rw [hd]; exact next b
end
end Go.Proofs.Ytbnhmioijeagiaa.Ab
/- Objects told otherwise: nil slices within them as one's own. No condition. -/
set_option linter.unusedVariables false
set_option linter.unusedSimpArgs false
namespace Go.Proofs.Ytbnhmioijeagiaa.Ab
section
variable {P : Program} {T : List TI} {N : Nat} {ops : Array Oper} {rest : List Oper} {o : Oper} {Q : Exit → St → Prop} {E F : Env} {M : List Ob}
theorem Ok.cast {K : Ctx} {G : Gh} {M M' : List Ob} {w : World} (h : Ok K G M w) (hs : ∀ o' ∈ M', (o'.b = none ∧ o'.cs = [] ∧ o'.room = 0) ∨ ∃ o ∈ M, o.b = o'.b ∧ o'.room = o.room ∧ (∀ vs, RepL G o.cs vs → RepL G o'.cs vs) ∧ (o.b = none → o'.cs = [])) (hn : (M'.filterMap (·.b)).Nodup) : Ok K G M' w := by
  refine ⟨h.g, h.os, h.tape, h.output, h.size, h.fr, h.fz, fun o' ho b hb => ?_, fun o' ho hb => ?_, fun o' ho b hb => ?_, fun o' ho b hb => ?_, hn, h.mz, h.um, h.wt⟩
  · rcases hs o' ho with ⟨h1, _⟩ | ⟨o, h1, h2, h3, h4, _⟩
    · rw [hb] at h1; cases h1
    · obtain ⟨vs, sp, t, a1, a2, a3⟩ := h.ow o h1 b (h2.trans hb)
      exact ⟨vs, sp, t, a1, h4 vs a2, by rw [h3]; exact a3⟩
  · rcases hs o' ho with ⟨_, h1, h2⟩ | ⟨o, h1, h2, h3, h4, h5⟩
    · exact ⟨h1, h2⟩
    · obtain ⟨a1, a2⟩ := h.vn o h1 (h2.trans hb)
      exact ⟨h5 (h2.trans hb), by rw [h3]; exact a2⟩
  · rcases hs o' ho with ⟨h1, _⟩ | ⟨o, h1, h2, _⟩
    · rw [hb] at h1; cases h1
    · exact h.un o h1 b (h2.trans hb)
  · rcases hs o' ho with ⟨h1, _⟩ | ⟨o, h1, h2, _⟩
    · rw [hb] at h1; cases h1
    · exact h.kb o h1 b (h2.trans hb)
theorem repL_set_same {G : Gh} {cs : List A} {vs : List Value} {i : Nat} {c c' : A} (h : RepL G cs vs) (hc : cs[i]? = some c) (hcc : ∀ v, Rep G c v → Rep G c' v) : RepL G (cs.set i c') vs := by
  obtain ⟨v, hv, hr⟩ := h.at i hc
  have := h.set i (hcc v hr)
  have e : vs.set i v = vs := by
    obtain ⟨h1, h2⟩ := List.getElem?_eq_some_iff.1 hv
    subst h2
    exact List.set_getElem_self h1
  rwa [e] at this

theorem ok_adoptF {K : Ctx} {G : Gh} {w : World} (i : Nat) {b room : Nat} {cs : List A} (h : cs[i]? = some .nils) (hok : Ok K G (⟨some b, room, cs⟩ :: M) w) : Ok K G (⟨some b, room, cs.set i (.own none 0 0)⟩ :: ⟨none, 0, []⟩ :: M) w := by
  refine hok.cast (fun o' ho => ?_) ?_
  · simp only [List.mem_cons] at ho
    rcases ho with rfl | rfl | ho
    · exact .inr ⟨⟨some b, room, cs⟩, List.mem_cons_self .., rfl, rfl, fun vs hv => repL_set_same hv h (fun v hr => by simp only [Rep] at hr ⊢; exact ⟨hr, trivial, trivial⟩), fun h => by cases h⟩
    · exact .inl ⟨rfl, rfl, rfl⟩
    · exact .inr ⟨o', by simp [ho], rfl, rfl, fun vs hv => hv, fun hb => (hok.vn o' (by simp [ho]) hb).1⟩
  · simpa [List.filterMap_cons] using hok.nd
/-- A nil slice in a field of the object at the front is one's own from now on. -/
theorem aops_adoptF {l : List Oper} (i : Nat) {b room : Nat} {cs cs' : List A} (h : cs[i]? = some .nils) (hcs : normL (cs.set i (.own none 0 0)) = some cs') (next : AOps P N ops l Q ⟨E, ⟨some b, room, cs'⟩ :: ⟨none, 0, []⟩ :: M⟩) : AOps P N ops l Q ⟨E, ⟨some b, room, cs⟩ :: M⟩ := by
  rw [normL_eq] at hcs; cases hcs
  exact aops_weaken (st' := ⟨E, ⟨some b, room, cs.set i (.own none 0 0)⟩ :: ⟨none, 0, []⟩ :: M⟩) (fun K G a w hi => ⟨G, ok_adoptF i h hi.ok, hi.sz, hi.df, hi.ev⟩) next
theorem acode_adoptF {c : Code} (i : Nat) {b room : Nat} {cs cs' : List A} (h : cs[i]? = some .nils) (hcs : normL (cs.set i (.own none 0 0)) = some cs') (next : ACode P N c Q ⟨E, ⟨some b, room, cs'⟩ :: ⟨none, 0, []⟩ :: M⟩) : ACode P N c Q ⟨E, ⟨some b, room, cs⟩ :: M⟩ := by
  rw [normL_eq] at hcs; cases hcs
  exact acode_weaken (st' := ⟨E, ⟨some b, room, cs.set i (.own none 0 0)⟩ :: ⟨none, 0, []⟩ :: M⟩) (fun K G a w hi => ⟨G, ok_adoptF i h hi.ok, hi.sz, hi.df, hi.ev⟩) next
theorem ok_swap1 {K : Ctx} {G : Gh} {w : World} {a b c : Ob} (hok : Ok K G (a :: b :: c :: M) w) : Ok K G (a :: c :: b :: M) w := by
  refine hok.sub (fun o ho => by simp only [List.mem_cons] at ho ⊢; rcases ho with h | h | h | h <;> simp [h]) ?_
  have := hok.nd
  cases a with | mk ab ar ac => cases b with | mk bb br bc => cases c with | mk cb cr cc =>
  cases ab <;> cases bb <;> cases cb <;> simp [List.filterMap_cons] at this ⊢ <;> first
    | exact this
    | (obtain ⟨⟨h1, h2⟩, h3, h4⟩ := this; exact ⟨⟨fun e => h1 e.symm, h3⟩, h2, h4⟩)
    | (obtain ⟨⟨h0, h0', h0''⟩, ⟨h1, h2⟩, h3, h4⟩ := this; exact ⟨⟨h0', h0, h0''⟩, ⟨fun e => h1 e.symm, h3⟩, h2, h4⟩)
    | (obtain ⟨⟨h0, h0''⟩, h3, h4⟩ := this; exact ⟨⟨h0, h0''⟩, h3, h4⟩)
theorem acode_swap1 {cd : Code} {a b c : Ob} (next : ACode P N cd Q ⟨E, a :: c :: b :: M⟩) : ACode P N cd Q ⟨E, a :: b :: c :: M⟩ :=
  acode_weaken (st' := ⟨E, a :: c :: b :: M⟩) (fun K G _ w hi => ⟨G, ok_swap1 hi.ok, hi.sz, hi.df, hi.ev⟩) next
theorem acode_dropL {c : Code} : ∀ (L : List Ob), ACode P N c Q ⟨E, M⟩ → ACode P N c Q ⟨E, L ++ M⟩
  | [], h => h
  | _ :: L, h => acode_drop0 (acode_dropL L h)
/-- A store into any object, its cells told. -/
theorem aops_stk (hT : TOk P T) (k : Nat) {t : Nat} {p x : Operand} {b off : Nat} {i : TI} {y : A} {room : Nat} {cs : List A} (cs' : List A) (M' : List Ob) (ho : o.op = .store t p x) (hp : opA E p = .ref b off) (hx : opA E x = y) (hk : known T t = some i)
    (hM : M[k]? = some ⟨some b, room, cs⟩) (hy : (Nat.beq y.cs.length i.size && cellsOk y) = true) (hoff : off + i.size ≤ cs.length) (hcs : cs.take off ++ (y.cs ++ cs.drop (off + i.size)) = cs') (hM' : M.set k ⟨some b, room, cs'⟩ = M')
    (hg : guardOn ops o E = some true) (hd : o.dst = none) (next : AOps P N ops rest Q ⟨E, M'⟩) : AOps P N ops (o :: rest) Q ⟨E, M⟩ := by
  refine aops_store hT k ho hp hx hk hM hy hoff cs' hcs hg (by rw [hd]; rfl) ?_
  rw [hM', hd]; exact next
/-! ### division of what is not below nothing -/
theorem div_small {a b : Int} (ha : 0 ≤ a) (ha' : a ≤ 9223372036854775807) (hb : 0 < b) : -9223372036854775808 ≤ a / b ∧ a / b ≤ 9223372036854775807 := by
  have h1 := Int.ediv_nonneg ha (Int.le_of_lt hb)
  have h2 := Int.ediv_le_self b ha
  omega
theorem mod_small {a b : Int} (ha : 0 ≤ a) (ha' : a ≤ 9223372036854775807) (hb : 0 < b) : -9223372036854775808 ≤ a % b ∧ a % b ≤ 9223372036854775807 := by
  have h1 := Int.emod_nonneg a (b := b) (by omega)
  have h2 : a % b ≤ a := by
    have := Int.emod_add_mul_ediv a b
    have h3 := Int.mul_nonneg (Int.le_of_lt hb) (Int.ediv_nonneg ha (Int.le_of_lt hb))
    omega
  omega
theorem aops_quo {d t t' : Nat} {x y : Operand} {a b : Int} (ho : o.op = .binOp .quo t x y t') (hx : opA E x = .int .i64 a) (hy : opA E y = .int .i64 b) (ha : 0 ≤ a) (ha' : a ≤ 9223372036854775807) (hb : 0 < b) (hg : guardOn ops o E = some true) (hd : o.dst = some d) (hN : Nat.blt d N = true)
    (next : AOps P N ops rest Q ⟨(d, .int .i64 (a / b)) :: E, M⟩) : AOps P N ops (o :: rest) Q ⟨E, M⟩ := by
  refine aops_val hg (by rw [hd]; exact hN) (.int .i64 (a / b)) M (fun K G av w hi => ?_) (by rw [hd]; exact next)
  have hrx := opA_rep hi x
  have hry := opA_rep hi y
  rw [hx] at hrx; rw [hy] at hry
  simp only [Rep] at hrx hry
  obtain ⟨d0, d1⟩ := div_small ha ha' hb
  refine ⟨.int .i64 (a / b), w, G, ?_, hi.ok, G.le_refl, rfl⟩
  have e1 : (binOp .quo t (.int .i64 a) (.int .i64 b)).run P w = .ok (.int .i64 (a / b)) w := by
    have hb0 : ¬ b = 0 := by omega
    simp [binOp, Op.intDiv, hb0, Int.tdiv_eq_ediv_of_nonneg ha, wrap64_small d0 d1]
  simp only [execOp, ho, hrx, hry, Sem.run_bind, eqGuard_run (P := P) (w := w) (op := .quo) (t := t) (x := x) (y := y) (u := .int .i64 a) (v := .int .i64 b) (.inl ⟨_, _, rfl⟩), e1, Result.andThen_ok]
  rfl
theorem aops_rem {d t t' : Nat} {x y : Operand} {a b : Int} (ho : o.op = .binOp .rem t x y t') (hx : opA E x = .int .i64 a) (hy : opA E y = .int .i64 b) (ha : 0 ≤ a) (ha' : a ≤ 9223372036854775807) (hb : 0 < b) (hg : guardOn ops o E = some true) (hd : o.dst = some d) (hN : Nat.blt d N = true)
    (next : AOps P N ops rest Q ⟨(d, .int .i64 (a % b)) :: E, M⟩) : AOps P N ops (o :: rest) Q ⟨E, M⟩ := by
  refine aops_val hg (by rw [hd]; exact hN) (.int .i64 (a % b)) M (fun K G av w hi => ?_) (by rw [hd]; exact next)
  have hrx := opA_rep hi x
  have hry := opA_rep hi y
  rw [hx] at hrx; rw [hy] at hry
  simp only [Rep] at hrx hry
  obtain ⟨d0, d1⟩ := mod_small ha ha' hb
  refine ⟨.int .i64 (a % b), w, G, ?_, hi.ok, G.le_refl, rfl⟩
  have e1 : (binOp .rem t (.int .i64 a) (.int .i64 b)).run P w = .ok (.int .i64 (a % b)) w := by
    have hb0 : ¬ b = 0 := by omega
    simp [binOp, Op.intDiv, hb0, Int.tmod_eq_emod_of_nonneg ha]
  simp only [execOp, ho, hrx, hry, Sem.run_bind, eqGuard_run (P := P) (w := w) (op := .rem) (t := t) (x := x) (y := y) (u := .int .i64 a) (v := .int .i64 b) (.inl ⟨_, _, rfl⟩), e1, Result.andThen_ok]
  rfl
end
end Go.Proofs.Ytbnhmioijeagiaa.Ab
/- Regions whose order is drawn, looked at in an order of one's own. No condition. -/
set_option linter.unusedVariables false
set_option linter.unusedSimpArgs false
namespace Go.Proofs.Ytbnhmioijeagiaa.Ab
section
variable {P : Program} {T : List TI} {N : Nat} {ops : Array Oper} {rest : List Oper} {o : Oper} {Q : Exit → St → Prop} {E F : Env} {M : List Ob}
def pickL (l : List Oper) : List Nat → Option (List Oper)
  | [] => some []
  | j :: js => match l[j]?, pickL l js with
    | some o, some r => some (o :: r)
    | _, _ => none
theorem pickL_at {l : List Oper} : ∀ {js : List Nat} {r : List Oper}, pickL l js = some r → r.length = js.length ∧ ∀ p : Nat, r[p]? = (js[p]?).bind fun (j : Nat) => l[j]?
  | [], r, h => by simp [pickL] at h; subst h; simp
  | j :: js, r, h => by
    simp only [pickL] at h
    split at h
    · rename_i o r' h1 h2
      cases h
      obtain ⟨i1, i2⟩ := pickL_at h2
      refine ⟨by simp [i1], fun p => ?_⟩
      cases p with
      | zero => simp [h1]
      | succ p => simpa using i2 p
    · cases h
/-- The form of such a region; js: the order of the first n; al: the places in it of those that make something. -/
def drawP (ops : Array Oper) (js al : List Nat) (n : Nat) : Bool :=
  Nat.ble n ops.size && Nat.beq js.length n &&
  ((List.range n).all fun i => ((ops[i]?).map fun o => (o.after.all fun e => !Region.binds .any e || Nat.blt e.on i) && (o.looksAt ops).all fun t => (List.range n).all fun j => !((ops[j]?).bind (·.dst) == some t) || (Region.waitsFor .any ops i j || Region.waitsFor .any ops j i)).getD false) &&
  ((List.range n).all fun i => (List.range n).all fun j => Nat.beq i j || (match (ops[i]?).bind (·.dst) with | some d => !((ops[j]?).bind (·.dst) == some d) | none => true)) &&
  ((List.range ops.size).all fun k => Nat.blt k n || (List.range n).all fun j => waitsT ops 12 k j) &&
  (al.all fun p => (List.range n).all fun q => Nat.ble q p || waitsT ops 12 (js.getD q 0) (js.getD p 0)) &&
  ((List.range n).all fun i => js.contains i) &&
  (js.all fun i => Nat.blt i n) &&
  ((List.range n).all fun p => (List.range n).all fun q => Nat.blt q p || !Region.waitsFor .any ops (js.getD p 0) (js.getD q 0)) &&
  ((List.range n).all fun p => (List.range n).all fun q => Nat.beq p q || !Nat.beq (js.getD p 0) (js.getD q 0))

theorem splitO_get {kp : List Ob} {al : List Nat} {n : Nat} {l : List Oper} {vals : (Nat → List Nat) → Nat → A} {Fs : (Nat → List Nat) → Nat → Env} {Ms : (Nat → List Nat) → Nat → List Ob} (s : SplitO P N ops Q kp al 0 E M n l vals Fs Ms) (hn : n ≤ l.length) (β : Nat → List Nat) (t : Nat) (hdst : ∀ i j, i < n → j < n → dstAt l.toArray i = some t → dstAt l.toArray j = some t → i = j) :
    ∀ k, k ≤ n → (∀ j, j < k → dstAt l.toArray j = some t → get (Fs β k) t = vals β j) ∧ ((∀ j, j < k → dstAt l.toArray j ≠ some t) → get (Fs β k) t = get E t) := by
  intro k
  induction k with
  | zero => intro _; exact ⟨fun j hj => by omega, fun _ => by rw [s.f0]⟩
  | succ k ih =>
    intro hk
    obtain ⟨i1, i2⟩ := ih (by omega)
    obtain ⟨o, ho⟩ : ∃ o, l[k]? = some o := ⟨l[k]'(by omega), List.getElem?_eq_getElem (by omega)⟩
    have hd : dstAt l.toArray k = o.dst := by simp [dstAt, ho]
    rw [(s.step k o (by omega) ho β).1, get_put]
    refine ⟨fun j hj hdj => ?_, fun hno => ?_⟩
    · by_cases hjk : j = k
      · subst hjk; rw [if_pos (hd ▸ hdj)]
      · have : o.dst ≠ some t := fun e => hjk (hdst j k (by omega) (by omega) hdj (hd.trans e))
        rw [if_neg this]; exact i1 j (by omega) hdj
    · rw [if_neg (hd ▸ hno k (by omega))]
      exact i2 fun j hj => hno j (by omega)
theorem splitO_grow {kp : List Ob} {al : List Nat} {n : Nat} {l : List Oper} {vals : (Nat → List Nat) → Nat → A} {Fs : (Nat → List Nat) → Nat → Env} {Ms : (Nat → List Nat) → Nat → List Ob} (s : SplitO P N ops Q kp al 0 E M n l vals Fs Ms) (hn : n ≤ l.length) (β : Nat → List Nat) (i : Nat) : ∀ d, i + d ≤ n → (Ms β (i + d) = Ms β i ∨ ∀ o ∈ kp, o ∈ Ms β (i + d)) ∧ ((∀ k, i ≤ k → k < i + d → al.contains k = false) → Ms β (i + d) = Ms β i)
  | 0, _ => ⟨.inl rfl, fun _ => rfl⟩
  | d + 1, h => by
    obtain ⟨h1, h2⟩ := splitO_grow s hn β i d (by omega)
    obtain ⟨o, ho⟩ : ∃ o, l[i + d]? = some o := ⟨l[i + d]'(by omega), List.getElem?_eq_getElem (by omega)⟩
    rcases (s.step (i + d) o (by omega) ho β).2 with ⟨a1, a2, _⟩ | ⟨a1, a2, _⟩
    · rw [show i + (d + 1) = i + d + 1 from rfl, a2]
      exact ⟨h1, fun hk => h2 fun k h0 h1 => hk k h0 (by omega)⟩
    · rw [show i + (d + 1) = i + d + 1 from rfl]
      refine ⟨.inr a2, fun hk => ?_⟩
      have := hk (i + d) (by omega) (by omega)
      rw [Nat.zero_add] at a1
      rw [a1] at this; cases this

theorem any_drawP {l l' : List Oper} (kp : List Ob) (n : Nat) (js al : List Nat) (hm : P.follows .mixedOrders = true) (hB : drawP l.toArray js al n = true)
    (hseq : Region.seqB .any l.toArray (l.drop n).length n (((List.range l.length).map fun i => Nat.blt i n).toArray) = true)
    (hl' : pickL l (js ++ (List.range l.length).drop n) = some l')
    (h : SeqO P N l.toArray Q kp al 0 E M n l') : ∀ K G a w, Inv K N G ⟨E, M⟩ a w → wpAny P .any l.toArray (lift K N Q) l.toArray.size (Array.replicate l.toArray.size false) a w.drew := by
  obtain ⟨vals, Fs, Ms, s⟩ := h.split
  intro K G a w hi
  have hi' : Inv K N G ⟨E, M⟩ a w.drew := ⟨hi.ok.drew, hi.sz, hi.df, hi.ev⟩
  change wpAny P .any l.toArray (lift K N Q) l.toArray.size (Array.replicate l.toArray.size false) a w.drew
  simp only [drawP, Bool.and_eq_true] at hB
  obtain ⟨⟨⟨⟨⟨⟨⟨⟨⟨hn, hjn⟩, hlook⟩, hdst⟩, htail⟩, hal⟩, hcov⟩, hjlt⟩, hord⟩, hinj⟩ := hB
  have hn : n ≤ l.length := by simpa using Nat.le_of_ble_eq_true hn
  have hjn : js.length = n := Nat.eq_of_beq_eq_true hjn
  obtain ⟨hll, hlat⟩ := pickL_at hl'
  have hll : l'.length = l.length := by rw [hll]; simp; omega
  -- the places
  have hcov' : ∀ i, i < n → ∃ p, p < n ∧ js.getD p 0 = i := by
    intro i hi
    have := List.all_eq_true.1 hcov i (List.mem_range.2 hi)
    have hm : i ∈ js := by simpa using this
    obtain ⟨p, hp, e⟩ := List.getElem_of_mem hm
    exact ⟨p, by omega, by rw [List.getD_eq_getElem?_getD, List.getElem?_eq_getElem hp, e]; rfl⟩
  have hjlt' : ∀ p, p < n → js.getD p 0 < n := by
    intro p hp
    have hp' : p < js.length := by omega
    have := List.all_eq_true.1 hjlt js[p] (List.getElem_mem hp')
    rw [List.getD_eq_getElem?_getD, List.getElem?_eq_getElem hp']
    simpa using this
  have hinj' : ∀ p q, p < n → q < n → js.getD p 0 = js.getD q 0 → p = q := by
    intro p q hp hq e
    have := List.all_eq_true.1 (List.all_eq_true.1 hinj p (List.mem_range.2 hp)) q (List.mem_range.2 hq)
    simp only [Bool.or_eq_true, Bool.not_eq_true'] at this
    rcases this with h | h
    · exact Nat.eq_of_beq_eq_true h
    · rw [e] at h; simp at h
  have hord' : ∀ p q, p < n → q < n → Region.waitsFor .any l.toArray (js.getD p 0) (js.getD q 0) = true → q < p := by
    intro p q hp hq e
    have := List.all_eq_true.1 (List.all_eq_true.1 hord p (List.mem_range.2 hp)) q (List.mem_range.2 hq)
    simp only [Bool.or_eq_true, Bool.not_eq_true'] at this
    rcases this with h | h
    · simpa using h
    · rw [e] at h; cases h
  have hat : ∀ p, p < n → l'[p]? = l[js.getD p 0]? := by
    intro p hp
    rw [hlat p, List.getElem?_append_left (by omega), List.getD_eq_getElem?_getD, List.getElem?_eq_getElem (show p < js.length by omega)]
    rfl
  have hdropEq : l'.drop n = l.drop n := by
    apply List.ext_getElem?
    intro p
    rw [List.getElem?_drop, List.getElem?_drop, hlat (n + p), List.getElem?_append_right (by omega), hjn, Nat.add_sub_cancel_left, List.getElem?_drop]
    by_cases h : n + p < l.length
    · rw [List.getElem?_range h]; rfl
    · rw [List.getElem?_eq_none (by simp; omega), List.getElem?_eq_none (by omega)]; rfl
  have hdat : ∀ p, p < n → dstAt l'.toArray p = dstAt l.toArray (js.getD p 0) := by
    intro p hp
    simp [dstAt, hat p hp]
  have hdst' : ∀ t i j, i < n → j < n → dstAt l.toArray i = some t → dstAt l.toArray j = some t → i = j := by
    intro t i j h1 h2 e1 e2
    have := List.all_eq_true.1 (List.all_eq_true.1 hdst i (List.mem_range.2 h1)) j (List.mem_range.2 h2)
    unfold dstAt at e1 e2
    rw [e1] at this
    simp only [Bool.or_eq_true] at this
    rcases this with h | h
    · exact Nat.eq_of_beq_eq_true h
    · rw [e2] at h; simp at h
  have hdstP : ∀ t p q, p < n → q < n → dstAt l'.toArray p = some t → dstAt l'.toArray q = some t → p = q := by
    intro t p q h1 h2 e1 e2
    rw [hdat p h1] at e1; rw [hdat q h2] at e2
    exact hinj' p q h1 h2 (hdst' t _ _ (hjlt' p h1) (hjlt' q h2) e1 e2)
  have hal' : ∀ p q, al.contains p = true → p < q → q < n → waitsT l.toArray 12 (js.getD q 0) (js.getD p 0) = true := by
    intro i j hc hij hj
    have h1 := List.all_eq_true.1 (List.all_eq_true.1 hal i (by simpa using hc)) j (List.mem_range.2 hj)
    simp only [Bool.or_eq_true] at h1
    rcases h1 with h1 | h1
    · have := Nat.le_of_ble_eq_true h1; omega
    · exact h1
  let pos : Nat → Nat := fun i => js.idxOf i
  have hpos : ∀ i, i < n → pos i < n ∧ js.getD (pos i) 0 = i := by
    intro i hi
    have hm : i ∈ js := by simpa using List.all_eq_true.1 hcov i (List.mem_range.2 hi)
    have h1 : js.idxOf i < js.length := List.idxOf_lt_length_of_mem hm
    have h2 : js.idxOf i < n := by omega
    refine ⟨h2, ?_⟩
    show js.getD (js.idxOf i) 0 = i
    rw [List.getD_eq_getElem?_getD, List.getElem?_eq_getElem h1, List.getElem_idxOf]; rfl
  let V : (Nat → List Nat) → List A := fun β => (List.range n).map fun i => vals β (pos i)
  have hV : ∀ β i, i < n → (V β).getD i .any = vals β (pos i) := fun β i hi => getD_map_range _ _ _ hi
  have body : ∀ (c : Nat) (listed : Array Bool), todo listed n = c → listed.size = l.length → (∀ k, n ≤ k → listed.getD k false = false) →
      (∀ k j, listed.getD k false = true → Region.waitsFor .any l.toArray k j = true → listed.getD j false = true) →
      ∀ (β : Nat → List Nat) (top : Nat), top ≤ n → (∀ p, p < top → al.contains p = true → listed.getD (js.getD p 0) false = true) → (∀ p, top ≤ p → p < n → al.contains p = true → listed.getD (js.getD p 0) false = false) →
      ∀ G a w, Inv K N G ⟨envS l.toArray (V β) listed n E, Ms β top⟩ a w →
      wpAny P .any l.toArray (lift K N Q) (c + (l.length - n)) listed a w := by
    intro c
    induction c with
    | zero =>
      intro listed hc hsz hno hcl β top htn ht1 ht2 G a w hi
      have hall : ∀ i, i < n → listed.getD i false = true := by
        intro i hin
        have : i ∉ (List.range n).filter fun i => !listed.getD i false := by
          have h0 := List.eq_nil_of_length_eq_zero hc
          rw [h0]; simp
        simp [hin] at this
        cases hb : listed.getD i false with
        | true => rfl
        | false => rw [Array.getD_eq_getD_getElem?] at hb; simp [hb] at this
      have he : listed = ((List.range l.length).map fun i => Nat.blt i n).toArray := by
        apply Array.ext (by simp [hsz])
        intro i h1 h2
        have e1 : listed.getD i false = listed[i] := by simp [h1]
        by_cases hin : i < n
        · have := hall i hin
          rw [e1] at this
          rw [this]; simp [hin]
        · have := hno i (by omega)
          rw [e1] at this
          rw [this]
          have : Nat.blt i n = false := by cases hb : Nat.blt i n with | false => rfl | true => exact absurd (by simpa using hb) hin
          simp [this]
      have hM : Ms β n = Ms β top := by
        obtain ⟨d, rfl⟩ : ∃ d, n = top + d := ⟨n - top, by omega⟩
        refine (splitO_grow s (by omega) β top d (Nat.le_refl _)).2 fun k h0 h1 => ?_
        cases hb : al.contains k with
        | false => rfl
        | true => have := ht2 k h0 h1 hb; rw [hall _ (hjlt' k h1)] at this; cases this
      have hi2 : Inv K N G ⟨Fs β n, Ms β n⟩ a w := by
        rw [hM]
        refine inv_E hi (fun t v hr => ?_)
        have hg : get (envS l.toArray (V β) listed n E) t = get (Fs β n) t := by
          obtain ⟨p1, p2⟩ := envS_get (ops := l.toArray) (V β) listed E t n (fun i j => hdst' t i j)
          obtain ⟨q1, q2⟩ := splitO_get s (by omega) β t (fun i j => hdstP t i j) n (Nat.le_refl _)
          by_cases hex : ∃ i, i < n ∧ dstAt l.toArray i = some t
          · obtain ⟨i, h1, h2⟩ := hex
            obtain ⟨k1, k2⟩ := hpos i h1
            rw [p1 i h1 h2 (hall i h1), q1 (pos i) k1 (by rw [hdat _ k1, k2]; exact h2), hV β i h1]
          · rw [p2 (fun i h1 h2 => absurd ⟨i, h1, h2⟩ hex), q2 (fun i h1 h2 => absurd ⟨_, hjlt' i h1, by rw [← hdat i h1]; exact h2⟩ hex)]
        rw [← hg]; exact hr
      have := wpAny_of_seq (P := P) (Q' := lift K N Q) (l.drop n) n listed a w (fun j => by simp) (by rw [he]; exact hseq) (hdropEq ▸ s.last β K G a w hi2)
      rw [Nat.zero_add, show l.length - n = (l.drop n).length from by simp]
      exact this
    | succ c ih =>
      intro listed hc hsz hno hcl β top htn ht1 ht2 G a w hi
      rw [Nat.succ_add]
      obtain ⟨i0, hi0, hmin⟩ : ∃ i, (i < n ∧ listed.getD i false = false) ∧ ∀ j, j < i → ¬ (j < n ∧ listed.getD j false = false) := by
        have hne : ((List.range n).filter fun i => !listed.getD i false) ≠ [] := by
          intro h; unfold todo at hc; rw [h] at hc; simp at hc
        obtain ⟨i, hmem⟩ := List.exists_mem_of_ne_nil _ hne
        simp only [List.mem_filter, List.mem_range, Bool.not_eq_true'] at hmem
        have : ∀ m i, i ≤ m → (i < n ∧ listed.getD i false = false) → ∃ i, (i < n ∧ listed.getD i false = false) ∧ ∀ j, j < i → ¬ (j < n ∧ listed.getD j false = false) := by
          intro m
          induction m with
          | zero => intro i him hp; exact ⟨i, hp, fun j hj => by omega⟩
          | succ m ihm =>
            intro i him hp
            by_cases hj : ∃ j, j < i ∧ (j < n ∧ listed.getD j false = false)
            · obtain ⟨j, h1, h2⟩ := hj
              exact ihm j (by omega) h2
            · exact ⟨i, hp, fun j hj' hp' => hj ⟨j, hj', hp'⟩⟩
        exact this i i (Nat.le_refl _) hmem
      have hready0 : i0 ∈ Region.ready .any l.toArray listed := by
        have hoi : ∃ o, l[i0]? = some o := ⟨l[i0]'(by omega), List.getElem?_eq_getElem (by omega)⟩
        obtain ⟨oi, hoi⟩ := hoi
        refine mem_ready.2 ⟨getD_in (by omega) hi0.2, oi, by simpa using hoi, fun e he hb => ?_⟩
        have h1 := List.all_eq_true.1 hlook i0 (List.mem_range.2 hi0.1)
        have h2 : (l.toArray[i0]?) = some oi := by simpa using hoi
        rw [h2] at h1
        simp only [Option.map_some, Option.getD_some, Bool.and_eq_true] at h1
        have h3 := Array.all_eq_true'.1 h1.1 e he
        simp only [Bool.or_eq_true, Bool.not_eq_true'] at h3
        rcases h3 with h3 | h3
        · rw [hb] at h3; cases h3
        · have hlt : e.on < i0 := by simpa using h3
          have := hmin e.on hlt
          cases hx : listed.getD e.on false with
          | true => rfl
          | false => exact absurd ⟨by omega, hx⟩ this
      refine ⟨fun h => (by rw [h] at hready0; cases hready0), fun i hir => ?_⟩
      obtain ⟨hun, oi, hoi, hall⟩ := mem_ready.1 hir
      have hoi' : l[i]? = some oi := by simpa using hoi
      have hil : i < l.length := (List.getElem?_eq_some_iff.1 hoi').1
      have hun' := getD_both hun
      have hrd : ∀ j, Region.waitsFor .any l.toArray i j = true → listed.getD j false = true := by
        intro j hw
        obtain ⟨oj, hoj, e, he, hbind, hon⟩ := Region.waitsFor_spec hw
        have : oj = oi := Option.some.inj (hoj.symm.trans hoi)
        subst this
        have h3 := hall e he hbind
        rwa [hon] at h3
      have hrdT := fun f j h => waitsT_ready hcl hrd f j h
      have hin : i < n := by
        apply Classical.byContradiction
        intro hge
        have h1 := List.all_eq_true.1 htail i (List.mem_range.2 (by simpa using hil))
        have hb : Nat.blt i n = false := by cases hb : Nat.blt i n with | false => rfl | true => exact absurd (by simpa using hb) hge
        rw [hb, Bool.false_or] at h1
        have h2 := List.all_eq_true.1 h1 i0 (List.mem_range.2 hi0.1)
        have := hrdT _ _ h2
        rw [hi0.2] at this
        cases this
      obtain ⟨hpn, hpi⟩ := hpos i hin
      have hop : l'[pos i]? = some oi := by rw [hat _ hpn, hpi]; exact hoi'
      have hlk := List.all_eq_true.1 hlook i (List.mem_range.2 hin)
      rw [hoi] at hlk
      simp only [Option.map_some, Option.getD_some, Bool.and_eq_true] at hlk
      have hE : ∀ t ∈ oi.looksAt l.toArray, get (envS l.toArray (V β) listed n E) t = get (Fs β (pos i)) t := by
        intro t ht
        have h2 := List.all_eq_true.1 hlk.2 t ht
        obtain ⟨p1, p2⟩ := envS_get (ops := l.toArray) (V β) listed E t n (fun i j => hdst' t i j)
        obtain ⟨q1, q2⟩ := splitO_get s (by omega) β t (fun i j => hdstP t i j) (pos i) (by omega)
        by_cases hex : ∃ j, j < n ∧ dstAt l.toArray j = some t
        · obtain ⟨j, hj, hdj⟩ := hex
          have h3 := List.all_eq_true.1 h2 j (List.mem_range.2 hj)
          have hdj' := hdj
          unfold dstAt at hdj'
          rw [hdj'] at h3
          simp only [beq_self_eq_true, Bool.not_true, Bool.false_or, Bool.or_eq_true] at h3
          obtain ⟨k1, k2⟩ := hpos j hj
          rcases h3 with h3 | h3
          · have hlj := hrd j h3
            have hji : pos j < pos i := hord' (pos i) (pos j) hpn k1 (by rw [hpi, k2]; exact h3)
            rw [p1 j hj hdj hlj, q1 (pos j) hji (by rw [hdat _ k1, k2]; exact hdj), hV β j hj]
          · have hlj : listed.getD j false = false := by
              cases hb : listed.getD j false with
              | false => rfl
              | true =>
                have := hcl j i hb h3
                rw [hun'] at this; cases this
            have hij : pos i < pos j := hord' (pos j) (pos i) k1 hpn (by rw [hpi, k2]; exact h3)
            have uniq : ∀ k, k < n → dstAt l.toArray k = some t → k = j := fun k hk hdk => hdst' t k j hk hj hdk hdj
            rw [p2 (fun k hk hdk => by rw [uniq k hk hdk]; exact hlj), q2 (fun p hp hdp => by
              have hp' : p < n := by omega
              rw [hdat p hp'] at hdp
              have e1 := uniq _ (hjlt' p hp') hdp
              have e2 : p = pos j := hinj' p (pos j) hp' k1 (by rw [e1, k2])
              omega)]
        · rw [p2 (fun j h1 h2 => absurd ⟨j, h1, h2⟩ hex), q2 (fun j h1 h2 => absurd ⟨_, hjlt' j (by omega), by rw [← hdat j (by omega)]; exact h2⟩ hex)]
      have hdi : dstAt l.toArray i = oi.dst := by simp [dstAt, hoi']
      have hbetw : ∀ k, top ≤ k → k < pos i → al.contains k = false := by
        intro k h0 h1
        cases hb : al.contains k with
        | false => rfl
        | true =>
          have h2 := hrdT 12 (js.getD k 0) (by have := hal' k (pos i) hb h1 hpn; rwa [hpi] at this)
          rw [ht2 k h0 (by omega) hb] at h2
          cases h2
      have hcl' : ∀ k j, (listed.setIfInBounds i true).getD k false = true → Region.waitsFor .any l.toArray k j = true → (listed.setIfInBounds i true).getD j false = true := by
        intro k j hk hw
        rw [getD_set' _ _ _ (by omega)] at hk ⊢
        split
        · rfl
        · by_cases hik : i = k
          · subst hik; exact hrd j hw
          · rw [if_neg hik] at hk; exact hcl k j hk hw
      have hno' : ∀ k, n ≤ k → (listed.setIfInBounds i true).getD k false = false := fun k hk => by rw [getD_set' _ _ _ (by omega), if_neg (by omega)]; exact hno k hk
      have htodo' : todo (listed.setIfInBounds i true) n = c := by have := todo_set listed n i hin (by omega) hun'; omega
      have henv : ∀ (W : List A) (t : Nat), (∀ j, j < n → listed.getD j false = true → W.getD j .any = (V β).getD j .any) → get (envS l.toArray W (listed.setIfInBounds i true) n E) t = get (put (envS l.toArray (V β) listed n E) oi.dst (W.getD i .any)) t := by
        intro W t hW
        rw [get_put']
        obtain ⟨p1, p2⟩ := envS_get (ops := l.toArray) (V β) listed E t n (fun i j => hdst' t i j)
        obtain ⟨q1, q2⟩ := envS_get (ops := l.toArray) W (listed.setIfInBounds i true) E t n (fun i j => hdst' t i j)
        by_cases hdt : oi.dst = some t
        · rw [if_pos hdt]
          exact q1 i hin (hdi.trans hdt) (by rw [getD_set' _ _ _ (by omega), if_pos rfl])
        · rw [if_neg hdt]
          by_cases hex : ∃ j, j < n ∧ dstAt l.toArray j = some t
          · obtain ⟨j, hj, hdj⟩ := hex
            have hji : i ≠ j := by rintro rfl; exact hdt (hdi.symm.trans hdj)
            cases hlj : listed.getD j false with
            | true => rw [p1 j hj hdj hlj, q1 j hj hdj (by rw [getD_set' _ _ _ (by omega), if_neg hji]; exact hlj), hW j hj hlj]
            | false =>
              have uniq : ∀ k, k < n → dstAt l.toArray k = some t → k = j := fun k hk hdk => hdst' t k j hk hj hdk hdj
              rw [p2 (fun k hk hdk => by rw [uniq k hk hdk]; exact hlj), q2 (fun k hk hdk => by rw [uniq k hk hdk, getD_set' _ _ _ (by omega), if_neg hji]; exact hlj)]
          · rw [p2 (fun j h1 h2 => absurd ⟨j, h1, h2⟩ hex), q2 (fun j h1 h2 => absurd ⟨j, h1, h2⟩ hex)]
      unfold wpOp
      rw [hoi]
      rcases (s.step (pos i) oi hpn hop β).2 with ⟨a1, a2, hy⟩ | ⟨a1, a2, hy⟩
      · rw [Nat.zero_add] at a1
        have hpe : Ms β top = Ms β (pos i) ∨ (∀ o ∈ kp, o ∈ Ms β top) ∧ ∃ j ∈ al, 0 + pos i < j := by
          by_cases hti : top ≤ pos i
          · obtain ⟨d, hd⟩ : ∃ d, pos i = top + d := ⟨pos i - top, by omega⟩
            have := (splitO_grow s (by omega) β top d (by omega)).2 fun k h0 h1 => hbetw k h0 (by omega)
            exact .inl (by rw [hd, this])
          · obtain ⟨d, rfl⟩ : ∃ d, top = pos i + d := ⟨top - pos i, by omega⟩
            obtain ⟨h1, h2⟩ := splitO_grow s (by omega) β (pos i) d htn
            by_cases hsome : ∃ k, pos i ≤ k ∧ k < pos i + d ∧ al.contains k = true
            · obtain ⟨k, k1, k2, k3⟩ := hsome
              have hne : k ≠ pos i := by rintro rfl; rw [a1] at k3; cases k3
              exact h1.imp (fun e => e) fun h1 => ⟨h1, k, by simpa using k3, by omega⟩
            · exact .inl (h2 fun k k1 k2 => by
                cases hb : al.contains k with
                | false => rfl
                | true => exact absurd ⟨k, k1, k2, hb⟩ hsome)
        have hstep := fun Kn hKn => ((hy _ hpe).wp (K := K) hE hi (Kn := Kn) (Q' := lift K N Q) hKn)
        have fin : ∀ G' a' w', Inv K N G' ⟨put (envS l.toArray (V β) listed n E) oi.dst (vals β (pos i)), Ms β top⟩ a' w' → wpAny P .any l.toArray (lift K N Q) (c + (l.length - n)) (listed.setIfInBounds i true) a' w' := by
          intro G' a' w' hi'
          refine ih (listed.setIfInBounds i true) htodo' (by simp [hsz]) hno' hcl' β top htn (fun k hk hc => ?_) (fun k hk hkn hc => ?_) G' a' w' ?_
          · rw [getD_set' _ _ _ (by omega)]; split; rfl; exact ht1 k hk hc
          · have : i ≠ js.getD k 0 := by
              intro e
              have : pos i = k := hinj' _ _ hpn hkn (by rw [hpi]; exact e)
              rw [this] at a1; rw [a1] at hc; cases hc
            rw [getD_set' _ _ _ (by omega), if_neg this]; exact ht2 k hk hkn hc
          · refine inv_E hi' (fun t v hr => ?_)
            rw [henv (V β) t fun _ _ _ => rfl, hV β i hin]; exact hr
        have := hstep _ fin
        split at this
        · rename_i hw; simp only [hw, if_true]; exact .inl this
        · rename_i hw; simp only [hw]; exact this
      · rw [Nat.zero_add] at a1
        have hti : top ≤ pos i := by
          apply Classical.byContradiction
          intro h
          have := ht1 (pos i) (by omega) a1
          rw [hpi, hun'] at this; cases this
        have hMi : Ms β top = Ms β (pos i) := by
          obtain ⟨d, hd⟩ : ∃ d, pos i = top + d := ⟨pos i - top, by omega⟩
          have := (splitO_grow s (by omega) β top d (by omega)).2 fun k h0 h1 => hbetw k h0 (by omega)
          rw [hd, this]
        rw [hMi] at hi
        have hgoal : ∀ b G' a' w', Inv K N G' ⟨put (envS l.toArray (V β) listed n E) oi.dst (vals (fun j => if j = pos i then b else β j) (pos i)), Ms (fun j => if j = pos i then b else β j) (pos i + 1)⟩ a' w' → wpAny P .any l.toArray (lift K N Q) (c + (l.length - n)) (listed.setIfInBounds i true) a' w' := by
          intro b G' a' w' hi'
          refine ih (listed.setIfInBounds i true) htodo' (by simp [hsz]) hno' hcl' (fun j => if j = pos i then b else β j) (pos i + 1) (by omega) (fun k hk hc => ?_) (fun k hk hkn hc => ?_) G' a' w' ?_
          · rw [getD_set' _ _ _ (by omega)]
            by_cases hik : i = js.getD k 0
            · rw [if_pos hik]
            · rw [if_neg hik]
              by_cases hkt : k < top
              · exact ht1 k hkt hc
              · have : k ≠ pos i := by rintro rfl; exact hik hpi.symm
                rw [hbetw k (by omega) (by omega)] at hc; cases hc
          · have : i ≠ js.getD k 0 := by
              intro e
              have : pos i = k := hinj' _ _ hpn hkn (by rw [hpi]; exact e)
              omega
            rw [getD_set' _ _ _ (by omega), if_neg this]; exact ht2 k (by omega) hkn hc
          · refine inv_E hi' (fun t v hr => ?_)
            rw [henv (V fun j => if j = pos i then b else β j) t fun j hj hlj => ?_, hV _ i hin]
            · exact hr
            · rw [hV _ j hj, hV _ j hj]
              obtain ⟨k1, k2⟩ := hpos j hj
              refine s.vb _ _ (pos j) fun m hm => ?_
              by_cases hmi : m = pos i
              · subst hmi
                exfalso
                by_cases hjm : pos j = pos i
                · have : j = i := by rw [← k2, ← hpi, hjm]
                  subst this; rw [hun'] at hlj; cases hlj
                · have h2 := waitsT_listed hcl 12 j i hlj (by have := hal' (pos i) (pos j) a1 (by omega) k1; rwa [k2, hpi] at this)
                  rw [hun'] at h2; cases h2
              · simp only [if_neg hmi]
        have h1 := hy _ hE [] (fun e st => e = .normal ∧ ∃ b, st = ⟨put (envS l.toArray (V β) listed n E) oi.dst (vals (fun j => if j = pos i then b else β j) (pos i)), Ms (fun j => if j = pos i then b else β j) (pos i + 1)⟩) (fun b => aops_nil ⟨rfl, b, rfl⟩) K G a w hi
        have hnil : ∀ a' w', wpList P l.toArray (lift K N fun e st => e = .normal ∧ ∃ b, st = ⟨put (envS l.toArray (V β) listed n E) oi.dst (vals (fun j => if j = pos i then b else β j) (pos i)), Ms (fun j => if j = pos i then b else β j) (pos i + 1)⟩) [] a' w' → wpAny P .any l.toArray (lift K N Q) (c + (l.length - n)) (listed.setIfInBounds i true) a' w' := by
          rintro a' w' ⟨G', st, ⟨_, b, rfl⟩, hi'⟩
          exact hgoal b G' a' w' hi'
        simp only [wpList] at h1
        split at h1
        · rename_i hw
          simp only [hw, if_true]
          rcases h1 with h1 | ⟨_, a0, w0, G', st, ⟨he, _⟩, _⟩
          · refine .inl ?_
            unfold Oper.wp at h1 ⊢
            generalize (execOp a.eval oi).run P w = r at h1 ⊢
            cases r with
            | ok n w' =>
              cases n <;> simp only [Oper.upon] at h1 ⊢ <;> first
                | exact hnil _ _ h1
                | exact h1
                | (refine Calls.mono h1 (fun e w'' he => ?_)
                   cases e with
                   | returned v => exact hnil _ _ he
                   | panicked ch => obtain ⟨G', s, ⟨he, _⟩, _⟩ := he; cases he
                   | outgrown => obtain ⟨a0, w0, G', s, ⟨he, _⟩, _⟩ := he; cases he)
                | exact Rows.mono h1 (fun _ _ he => hnil _ _ he)
            | halt e w' =>
              cases e <;> simp only [Oper.upon] at h1 ⊢
              obtain ⟨G', st, ⟨he, _⟩, _⟩ := h1
              cases he
          · cases he
        · rename_i hw
          simp only [hw]
          exact hnil _ _ h1
  have hinit : Inv K N G ⟨envS l.toArray (V fun _ => []) (Array.replicate l.length false) n E, Ms (fun _ => []) 0⟩ a w.drew := by
    rw [s.m0]
    refine inv_E hi' (fun t v hr => ?_)
    obtain ⟨_, p2⟩ := envS_get (ops := l.toArray) (V fun _ => []) (Array.replicate l.length false) E t n (fun i j => hdst' t i j)
    rw [p2 (fun i _ _ => getD_replicate_false _ _)]
    exact hr
  have htodo : todo (Array.replicate l.length false) n = n := by
    simp only [todo]
    rw [List.filter_eq_self.2 (fun i _ => by rw [getD_replicate_false]; rfl)]
    simp
  have := body n (Array.replicate l.length false) htodo (by simp) (fun k _ => getD_replicate_false _ _) (fun k j hk => by rw [getD_replicate_false] at hk; cases hk) (fun _ => []) 0 (Nat.zero_le _) (fun k hk => by omega) (fun k _ _ _ => getD_replicate_false _ _) G a w.drew hinit
  simpa [show n + (l.length - n) = l.length from by omega] using this
theorem acode_drawP {id : Nat} {l l' : List Oper} (kp : List Ob) (n : Nat) (js al : List Nat) (hm : P.follows .mixedOrders = true) (hB : drawP l.toArray js al n = true)
    (hseq : Region.seqB .any l.toArray (l.drop n).length n (((List.range l.length).map fun i => Nat.blt i n).toArray) = true)
    (hl' : pickL l (js ++ (List.range l.length).drop n) = some l')
    (h : SeqO P N l.toArray Q kp al 0 E M n l') : ACode P N (.region id l.toArray true) Q ⟨E, M⟩ :=
  fun K G a w hi => wp_region_any hm (any_drawP kp n js al hm hB hseq hl' h K G a w hi)
/-- Of two answers that hang on one truth: the one. -/
theorem yes_of {f : FuncId} {xs : List A} {p : Prop} {x y : A} (h : p) (hc : ACalls P f xs M (fun r M' => (p ∧ r = x ∨ ¬ p ∧ r = y) ∧ M' = M)) : ACalls P f xs M (fun r M' => r = x ∧ M' = M) :=
  hc.mono fun r M' ⟨h1, h2⟩ => ⟨by rcases h1 with ⟨_, e⟩ | ⟨hn, _⟩; exact e; exact absurd h hn, h2⟩
theorem no_of {f : FuncId} {xs : List A} {p : Prop} {x y : A} (h : ¬ p) (hc : ACalls P f xs M (fun r M' => (p ∧ r = x ∨ ¬ p ∧ r = y) ∧ M' = M)) : ACalls P f xs M (fun r M' => r = y ∧ M' = M) :=
  hc.mono fun r M' ⟨h1, h2⟩ => ⟨by rcases h1 with ⟨hp, _⟩ | ⟨_, e⟩; exact absurd hp h; exact e, h2⟩
end
end Go.Proofs.Ytbnhmioijeagiaa.Ab
/- More rules: objects in another order; append to one's own within a drawn region. No condition. -/
set_option linter.unusedVariables false
set_option linter.unusedSimpArgs false
namespace Go.Proofs.Ytbnhmioijeagiaa.Ab
section
variable {P : Program} {T : List TI} {N : Nat} {ops : Array Oper} {rest : List Oper} {o : Oper} {Q : Exit → St → Prop} {E F : Env} {M : List Ob}
theorem ok_perm {K : Ctx} {G : Gh} {w : World} {M' : List Ob} (hp : M.Perm M') (hok : Ok K G M w) : Ok K G M' w :=
  hok.sub (fun o ho => hp.mem_iff.2 ho) ((hp.filterMap _).nodup_iff.1 hok.nd)
theorem aops_perm {l : List Oper} (M' : List Ob) (hp : M.Perm M') (next : AOps P N ops l Q ⟨E, M'⟩) : AOps P N ops l Q ⟨E, M⟩ :=
  aops_weaken (st' := ⟨E, M'⟩) (fun K G _ w hi => ⟨G, ok_perm hp hi.ok, hi.sz, hi.df, hi.ev⟩) next
theorem acode_perm {c : Code} (M' : List Ob) (hp : M.Perm M') (next : ACode P N c Q ⟨E, M'⟩) : ACode P N c Q ⟨E, M⟩ :=
  acode_weaken (st' := ⟨E, M'⟩) (fun K G _ w hi => ⟨G, ok_perm hp hi.ok, hi.sz, hi.df, hi.ev⟩) next

def obZ (z : List Nat) : Option Nat := bif Nat.beq (z.headD 0) 0 then none else some (z.getD 1 0)
def capZ (z : List Nat) : Nat := z.getD 2 0
theorem z_of (ob : Option Nat) (cap : Nat) : ∃ z, obZ z = ob ∧ capZ z = cap := by
  cases ob with
  | none => exact ⟨[0, 0, cap], rfl, rfl⟩
  | some b => exact ⟨[1, b, cap], rfl, rfl⟩
/-- append to one's own, in a drawn region. -/
theorem seqO_app (hT : TOk P T) {kp : List Ob} {al : List Nat} {i : Nat} {ll : List Oper} {mm : Nat} {t e d : Nat} {ei : TI} {s x : Operand} {ob : Option Nat} {n cap room m : Nat} {cs ds : List A} (k : Nat) (hi : al.contains i = true) (ho : o.op = .call { callee := .builtin .append, args := #[s, x], argTypes := #[t, t] }) (hs : sliceOf T t = some (e, ei))
    (hsv : opA F s = .own ob n cap) (hx : opA F x = .psl m ds ∨ opA F x = .nils ∧ m = 0 ∧ ds = []) (hM : M[k]? = some ⟨ob, room, cs⟩) (hroom : room = cap * ei.size) (hcs : cs.length = n * ei.size) (hds : ds.length = m * ei.size) (hcell : ds.all A.isCell = true)
    (hz : (Nat.beq ei.zero.length ei.size && Nat.blt 0 ei.size) = true) (hbytes : (n + m) * ei.bytes ≤ 140737488355328) (hlen : n + m ≤ 140737488355328) (hkp : ∀ y, ∀ o ∈ kp, o ∈ M.set k y) (hg : guardOn ops o F = some true) (hd : o.dst = some d) (hN : Nat.blt d N = true)
    (next : ∀ ob' cap', SeqO P N ops Q kp al (i + 1) ((d, .own ob' (n + m) cap') :: F) (M.set k ⟨ob', cap' * ei.size, cs ++ ds⟩) mm ll) : SeqO P N ops Q kp al i F M (mm + 1) (o :: ll) := by
  refine SeqO.make (x := fun z => .own (obZ z) (n + m) (capZ z)) (M2 := fun z => M.set k ⟨obZ z, capZ z * ei.size, cs ++ ds⟩) hi (fun E hE rest Q next => ?_) (fun z o ho => hkp _ o ho) fun z => ?_
  · have e1 : ∀ y ∈ o.op.operands, opA E y = opA F y := fun y hy => agree_op hE hy
    have ex : opA E x = opA F x := e1 x (by rw [ho]; simp [Op.operands, Call.operands])
    refine aops_append hT k ho hs ((e1 s (by rw [ho]; simp [Op.operands, Call.operands])).trans hsv) (by rw [ex]; exact hx) hM hroom hcs hds hcell hz hbytes hlen ((agree_guard hE).trans hg) (by rw [hd]; exact hN) fun ob' cap' => ?_
    obtain ⟨z, rfl, rfl⟩ := z_of ob' cap'
    exact next z
  · rw [hd]; exact next _ _
theorem seqO_lit (hT : TOk P T) {kp : List Ob} {al : List Nat} {i : Nat} {ll : List Oper} {m d : Nat} {t len e : Nat} {ei : TI} {parts : Array (Nat × Operand)} {r r' : List A} (hi : al.contains i = false) (ho : o.op = .buildSlice t len parts) (hs : sliceOf T t = some (e, ei)) (hsz : (Nat.blt 0 (len * ei.size) && Nat.ble (len * ei.size) 16777216 && Nat.beq ei.zero.length ei.size) = true)
    (hf : fillA (fun i => some (i * ei.size, ei.size)) (zerosA (ei.zero.map ofZ) len) (parts.toList.map fun (i, x) => (i, opA F x)) = some r) (hr : normL r = some r') (hg : guardOn ops o F = some true) (hd : o.dst = some d) (hN : Nat.blt d N = true)
    (next : SeqO P N ops Q kp al (i + 1) ((d, .psl len r') :: F) M m ll) : SeqO P N ops Q kp al i F M (m + 1) (o :: ll) := by
  rw [normL_eq] at hr; cases hr
  exact seqO_y hi (fun M' => yields_lit hT ho hs hsz hf hg (by rw [hd]; exact hN)) hd next
/-- Rows of cells, each told otherwise. -/
theorem VwL.map {M : List Ob} {α : Type} {f g : α → List A} : ∀ {l : List α}, (∀ x ∈ l, VwL M (f x) (g x)) → VwL M (encs f l) (encs g l)
  | [], _ => .nil
  | x :: l, h => by
    simp only [encs, List.flatMap_cons]
    exact (h x (by simp)).app (VwL.map fun y hy => h y (by simp [hy]))
/-- One's own slice that is not empty has a block. -/
theorem aops_somed {l : List Oper} (t : Nat) {ob : Option Nat} {n cap : Nat} (h : get E t = .own ob n cap) (hn : 0 < n) (next : ∀ b, ob = some b → AOps P N ops l Q ⟨E, M⟩) : AOps P N ops l Q ⟨E, M⟩ := by
  intro K G a w hi
  cases ob with
  | some b => exact next b rfl K G a w hi
  | none =>
    have hr := hi.ev t
    simp only at hr
    rw [h] at hr
    obtain ⟨_, h0, _⟩ := hr
    omega
theorem acode_somed {c : Code} (t : Nat) {ob : Option Nat} {n cap : Nat} (h : get E t = .own ob n cap) (hn : 0 < n) (next : ∀ b, ob = some b → ACode P N c Q ⟨E, M⟩) : ACode P N c Q ⟨E, M⟩ := by
  intro K G a w hi
  cases ob with
  | some b => exact next b rfl K G a w hi
  | none =>
    have hr := hi.ev t
    simp only at hr
    rw [h] at hr
    obtain ⟨_, h0, _⟩ := hr
    omega
/-! ### rows of cells -/
/-- A frozen literal, its cells told plainly. -/
theorem aops_litn (hT : TOk P T) {d : Nat} {t len e : Nat} {ei : TI} {parts : Array (Nat × Operand)} {r : List A} (ho : o.op = .buildSlice t len parts) (hs : sliceOf T t = some (e, ei)) (hsz : (Nat.blt 0 (len * ei.size) && Nat.ble (len * ei.size) 16777216 && Nat.beq ei.zero.length ei.size) = true)
    (hf : (fillA (fun i => some (i * ei.size, ei.size)) (zerosA (ei.zero.map ofZ) len) (parts.toList.map fun (i, x) => (i, opA E x))).bind normL = some r) (hg : guardOn ops o E = some true) (hd : o.dst = some d) (hN : Nat.blt d N = true)
    (next : AOps P N ops rest Q ⟨(d, .psl len r) :: E, M⟩) : AOps P N ops (o :: rest) Q ⟨E, M⟩ := by
  have hf' : fillA (fun i => some (i * ei.size, ei.size)) (zerosA (ei.zero.map ofZ) len) (parts.toList.map fun (i, x) => (i, opA E x)) = some r := by
    rw [Option.bind_eq_some_iff] at hf
    obtain ⟨r', h1, h2⟩ := hf
    rw [normL_eq] at h2
    cases h2; exact h1
  exact aops_litf hT ho hs hsz hf' hg hd hN next
end
end Go.Proofs.Ytbnhmioijeagiaa.Ab
/- More rules: one's own slice within an object. No condition. -/
set_option linter.unusedVariables false
set_option linter.unusedSimpArgs false
namespace Go.Proofs.Ytbnhmioijeagiaa.Ab
section
variable {P : Program} {T : List TI} {N : Nat} {ops : Array Oper} {rest : List Oper} {o : Oper} {Q : Exit → St → Prop} {E F : Env} {M : List Ob}
end
end Go.Proofs.Ytbnhmioijeagiaa.Ab
/- Chapter 10's reference, form: pulled out of Gra2, Gra3, Gra4 (printed by genchk.py). No condition. -/
set_option linter.unusedVariables false
set_option linter.unusedSimpArgs false
namespace Go.Proofs.Ytbnhmioijeagiaa.Ab
attribute [local irreducible] thenA inBlockA ACode AOps put IntKind.wrap

def isName (g : Gr) (s : Int) : Prop := 0 ≤ s ∧ s < g.names
def isKind (g : Gr) (s : Int) : Prop := s < 0 ∧ -1 - s < g.kinds
def isSym (g : Gr) (s : Int) : Prop := isKind g s ∨ isName g s
instance (g : Gr) (s : Int) : Decidable (isName g s) := inferInstanceAs (Decidable (_ ∧ _))
instance (g : Gr) (s : Int) : Decidable (isKind g s) := inferInstanceAs (Decidable (_ ∧ _))
instance (g : Gr) (s : Int) : Decidable (isSym g s) := inferInstanceAs (Decidable (_ ∨ _))
def badC (c : Int) : Bool := decide (c < 0 ∨ c > 100)
def clsOk (l : List Int) (n : Int) : Prop := l.length ≤ n ∧ l.any badC = false
instance (l : List Int) (n : Int) : Decidable (clsOk l n) := inferInstanceAs (Decidable (_ ∧ _))
def bigB (g : Gr) : Prop := g.names < 1 ∨ g.names > 40 ∨ g.kinds < 0 ∨ g.kinds > 40 ∨ g.rules.length > 60 ∨ g.forbid.length > 200
instance (g : Gr) : Decidable (bigB g) := inferInstanceAs (Decidable (_ ∨ _ ∨ _ ∨ _ ∨ _ ∨ _))
def wholeF (g : Gr) : Int := if bigB g then 3 else if ¬ isName g g.start then 6 else if ¬ (clsOk g.rc g.rules.length ∧ clsOk g.kc g.kinds) then 1 else 0
def ruleF (g : Gr) (r : Ru) : Int := if ¬ isName g r.left ∨ r.right.any (fun s => !decide (isSym g s)) = true then 6 else if r.right.length > 8 then 3 else if r.dyn < -1000 ∨ r.dyn > 1000 then 1 else 0
def ruD : Ru := ⟨0, [], 0⟩
def ruleAt (g : Gr) (i : Int) : Ru := g.rules.getD i.toNat ruD
def forbOk (g : Gr) (f : Int × Int × Int) : Prop := (0 ≤ f.1 ∧ f.1 < g.rules.length ∧ 0 ≤ f.2.2 ∧ f.2.2 < g.rules.length) ∧ (0 ≤ f.2.1 ∧ f.2.1 < (ruleAt g f.1).right.length) ∧ (ruleAt g f.1).right.getD f.2.1.toNat 0 = (ruleAt g f.2.2).left
instance (g : Gr) (f : Int × Int × Int) : Decidable (forbOk g f) := inferInstanceAs (Decidable (_ ∧ _ ∧ _))
theorem ruleAt_at {g : Gr} {i : Int} (h0 : 0 ≤ i) (h1 : i < g.rules.length) : g.rules[i.toNat]? = some (ruleAt g i) := by
  have : i.toNat < g.rules.length := by omega
  simp [ruleAt, List.getElem?_eq_getElem this]
theorem int_at {l : List Int} {i : Int} (h0 : 0 ≤ i) (h1 : i < l.length) : l[i.toNat]? = some (l.getD i.toNat 0) := by
  have : i.toNat < l.length := by omega
  simp [List.getElem?_eq_getElem this]
def rulesF (g : Gr) : Int → List Ru → Option (Int × Int)
  | _, [] => none
  | i, r :: rs => if ruleF g r ≠ 0 then some (i, ruleF g r) else rulesF g (i + 1) rs
def formF (g : Gr) : Int × Int := if wholeF g ≠ 0 then (-1, wholeF g) else match rulesF g 0 g.rules with
  | some p => p
  | none => if g.forbid.any (fun f => !decide (forbOk g f)) = true then (-1, 6) else (-1, 0)
def tup2 (p : Int × Int) : A := .tup [.int .i64 p.1, .int .i64 p.2]
theorem symbol_calls {g : Gr} {s : Int} (hs : rng s) (M : List Ob) : ACalls Try.prog 67 [grA g, .int .i64 s] M (fun r M' => r = .bool (decide (isSym g s)) ∧ M' = M) := by
  obtain ⟨s0, s1⟩ := hs
  refine acalls_of_code 16 Try.func67 rfl rfl rfl ?_
  repeat (first | refine acode_seq ?_ | refine acode_region ?_)
  refine aops_boxf rfl rfl rfl rfl rfl rfl rfl ?_
  repeat' (first | refine aops_end ?_ | refine aops_a tok rfl (by omega) (by omega) rfl rfl rfl ?_ | (refine aops_pd tok rfl rfl rfl rfl ?_ ?_ <;> intro e_) | refine aops_p tok rfl rfl rfl rfl ?_ | refine acode_it rfl ?_ | refine acode_if rfl ?_ | refine acode_seq ?_ | refine acode_region ?_ | refine acode_skip ?_ | refine then_n ?_)
  all_goals
    refine acode_ret ?_
    repeat (refine ret_then ?_)
    exact ⟨.bool (decide (isSym g s)), ⟨rfl, rfl⟩, resOf_tmp (by first | exact bt (by unfold isSym isKind isName; omega) | exact bf (by unfold isSym isKind isName; omega))⟩
theorem rclasses_calls {l : List Int} (hl : l.length ≤ 9223372036854775807) (M : List Ob) : ACalls Try.prog 66 [.psl l.length (ints l)] M (fun r M' => r = .bool (!l.any badC) ∧ M' = M) := by
  refine acalls_of_code 22 Try.func66 rfl rfl rfl ?_
  repeat (first | refine aops_end ?_ | refine aops_p tok rfl rfl rfl rfl ?_ | refine acode_seq ?_ | refine acode_region ?_ | refine acode_block ?_)
  refine acode_loopS (ι := Nat) (fun i => [(0, .psl l.length (ints l)), (3, .int .i64 i)]) (fun _ => M) (fun i => l.length - i) (fun i => i ≤ l.length ∧ (l.take i).any badC = false) 0 ⟨Nat.zero_le _, by simp⟩ ⟨rfl, rfl, trivial⟩ rfl ?_
  rintro i ⟨hi, hn⟩
  repeat (first | refine aops_end ?_ | refine aops_p tok rfl rfl rfl rfl ?_ | refine acode_seq ?_ | refine acode_region ?_)
  refine acode_id rfl (fun e => ?_) (fun e => ?_)
  · have hlt : i < l.length := by omega
    obtain ⟨x, hx⟩ : ∃ x, l[i]? = some x := ⟨l[i], List.getElem?_eq_getElem hlt⟩
    repeat (first | refine aops_p tok rfl rfl rfl rfl ?_ | refine acode_seq ?_ | refine acode_region ?_ | refine acode_block ?_ | refine acode_skip ?_ | refine then_n ?_)
    refine aops_ix tok [A.int .i64 x] rfl rfl rfl rfl (by omega) (by omega) (by simp) (ints_at (j := i) (by simpa using hx)) rfl rfl rfl ?_
    repeat' (first | refine aops_end ?_ | refine aops_o rfl rfl rfl ?_ | (refine aops_pd tok rfl rfl rfl rfl ?_ ?_ <;> intro e_) | refine aops_p tok rfl rfl rfl rfl ?_ | refine acode_it rfl ?_ | refine acode_seq ?_ | refine acode_region ?_)
    · refine acode_ret ?_
      repeat (first | refine ret_then ?_ | refine ret_block ?_)
      refine ⟨_, ⟨rfl, rfl⟩, resOf_tmp ?_⟩
      have : l.any badC = true := List.any_eq_true.2 ⟨x, List.mem_of_getElem? hx, by unfold badC; rw [decide_eq_true (by omega)]⟩
      rw [this]; rfl
    · refine aops_ix tok [A.int .i64 x] rfl rfl rfl rfl (by omega) (by omega) (by simp) (ints_at (j := i) (by simpa using hx)) rfl rfl rfl ?_
      repeat' (first | refine aops_end ?_ | refine aops_a tok rfl (by omega) (by omega) rfl rfl rfl ?_ | (refine aops_pd tok rfl rfl rfl rfl ?_ ?_ <;> intro e_) | refine aops_p tok rfl rfl rfl rfl ?_ | refine acode_it rfl ?_ | refine acode_if rfl ?_ | refine acode_seq ?_ | refine acode_region ?_ | refine acode_skip ?_ | refine then_n ?_ | refine block_n ?_)
      · refine acode_ret ?_
        repeat (first | refine ret_then ?_ | refine ret_block ?_)
        refine ⟨_, ⟨rfl, rfl⟩, resOf_tmp ?_⟩
        have : l.any badC = true := List.any_eq_true.2 ⟨x, List.mem_of_getElem? hx, by unfold badC; rw [decide_eq_true (by omega)]⟩
        rw [this]; rfl
      · refine ⟨i + 1, ⟨by omega, ?_⟩, by omega, ⟨rfl, rfl, trivial⟩, rfl⟩
        rw [List.take_add_one, hx]
        have : badC x = false := by unfold badC; rw [decide_eq_false (by omega)]
        simp [hn, this]
  · have hge : i = l.length := by omega
    subst hge
    refine acode_exit ?_
    repeat (first | refine exit_then ?_ | refine exit_here ?_ | refine then_n ?_)
    repeat (first | refine aops_end ?_ | refine aops_p tok rfl rfl rfl rfl ?_ | refine acode_seq ?_ | refine acode_region ?_)
    refine acode_ret ?_
    skip
    rw [List.take_length] at hn
    exact ⟨_, ⟨rfl, rfl⟩, resOf_tmp (by rw [hn]; rfl)⟩
def okR (g : Gr) (r : Ru) (k : Nat) : Bool := decide (isName g r.left) && (r.right.take k).all fun s => decide (isSym g s)
theorem okR_end {g : Gr} {r : Ru} : okR g r r.right.length = true ↔ ¬ (¬ isName g r.left ∨ r.right.any (fun s => !decide (isSym g s)) = true) := by
  unfold okR
  rw [List.take_length]
  simp
theorem okR_false {g : Gr} {r : Ru} {k : Nat} (h : okR g r k = false) : okR g r r.right.length = false := by
  cases h2 : okR g r r.right.length with
  | false => rfl
  | true =>
    unfold okR at h h2
    rw [List.take_length] at h2
    simp only [Bool.and_eq_true, List.all_eq_true] at h2
    have : (decide (isName g r.left) && (r.right.take k).all fun s => decide (isSym g s)) = true := by
      simp only [Bool.and_eq_true, List.all_eq_true]
      exact ⟨h2.1, fun s hs => h2.2 s (List.mem_of_mem_take hs)⟩
    rw [this] at h
    cases h
set_option maxHeartbeats 4000000 in
theorem rform_calls {g : Gr} (hg : GrOk g) (M : List Ob) : ACalls Try.prog 29 [grA g] M (fun x M' => x = tup2 (formF g) ∧ M' = M) := by
  refine acalls_of_code 211 Try.func29 rfl rfl rfl ?_
  repeat (first | refine acode_seq ?_ | refine acode_region ?_)
  refine aops_boxf rfl rfl rfl rfl rfl rfl rfl ?_
  repeat' (first | refine aops_end ?_ | refine aops_o rfl rfl rfl ?_ | (refine aops_pd tok rfl rfl rfl rfl ?_ ?_ <;> intro e_) | refine aops_p tok rfl rfl rfl rfl ?_ | refine acode_it rfl ?_ | refine acode_if rfl ?_ | refine acode_seq ?_ | refine acode_region ?_ | refine acode_skip ?_ | refine then_n ?_)
  all_goals try
    (have hw : wholeF g = 3 := by unfold wholeF; rw [if_pos (by unfold bigB; omega)]
     have hf : formF g = (-1, 3) := by unfold formF; rw [hw, if_pos (by omega)]
     rw [hf]
     refine acode_ret ?_
     repeat (refine ret_then ?_)
     exact ⟨_, ⟨rfl, rfl⟩, _, _, rfl, resOf_tmp rfl, resOf_tmp rfl⟩)
  all_goals try
    (have hw : wholeF g = 6 := by unfold wholeF; rw [if_neg (by unfold bigB; omega), if_pos (by unfold isName; omega)]
     have hf : formF g = (-1, 6) := by unfold formF; rw [hw, if_pos (by omega)]
     rw [hf]
     refine acode_ret ?_
     repeat (refine ret_then ?_)
     exact ⟨_, ⟨rfl, rfl⟩, _, _, rfl, resOf_tmp rfl, resOf_tmp rfl⟩)
  all_goals have hb : ¬ bigB g := by unfold bigB; omega
  all_goals have hs : isName g g.start := by unfold isName; omega
  all_goals try
    (have hw : wholeF g = 1 := by unfold wholeF; rw [if_neg hb, if_neg (by simp [hs]), if_pos (by unfold clsOk; intro hc; obtain ⟨⟨_, _⟩, ⟨_, _⟩⟩ := hc; omega)]
     have hf : formF g = (-1, 1) := by unfold formF; rw [hw, if_pos (by omega)]
     rw [hf]
     refine acode_ret ?_
     repeat (refine ret_then ?_)
     exact ⟨_, ⟨rfl, rfl⟩, _, _, rfl, resOf_tmp rfl, resOf_tmp rfl⟩)
  refine aops_callx Try.func66 rfl rfl rfl rfl (rclasses_calls hg.rc _) rfl rfl rfl ?_
  have hlr : (g.rc.length : Int) ≤ g.rules.length := by omega
  have hlk : (g.kc.length : Int) ≤ g.kinds := by omega
  have one : ¬ (clsOk g.rc g.rules.length ∧ clsOk g.kc g.kinds) → formF g = (-1, 1) := fun h => by
    have hw : wholeF g = 1 := by unfold wholeF; rw [if_neg hb, if_neg (by simp [hs]), if_pos h]
    unfold formF; rw [hw, if_pos (by omega)]
  cases h1 : g.rc.any badC with
  | true =>
    rw [one (fun h => by have := h.1.2; rw [h1] at this; cases this)]
    repeat' (first | refine aops_end ?_ | refine aops_o rfl rfl rfl ?_ | refine aops_p tok rfl rfl rfl rfl ?_ | refine acode_it rfl ?_ | refine acode_seq ?_ | refine acode_region ?_)
    refine acode_ret ?_
    repeat (refine ret_then ?_)
    exact ⟨_, ⟨rfl, rfl⟩, _, _, rfl, resOf_tmp rfl, resOf_tmp rfl⟩
  | false =>
  repeat' (refine aops_p tok rfl rfl rfl rfl ?_)
  refine aops_callx Try.func66 rfl rfl rfl rfl (rclasses_calls hg.kc _) rfl rfl rfl ?_
  cases h2 : g.kc.any badC with
  | true =>
    rw [one (fun h => by have := h.2.2; rw [h2] at this; cases this)]
    repeat' (first | refine aops_end ?_ | refine aops_p tok rfl rfl rfl rfl ?_ | refine acode_it rfl ?_ | refine acode_seq ?_ | refine acode_region ?_)
    refine acode_ret ?_
    repeat (refine ret_then ?_)
    exact ⟨_, ⟨rfl, rfl⟩, _, _, rfl, resOf_tmp rfl, resOf_tmp rfl⟩
  | false =>
  have hw : wholeF g = 0 := by unfold wholeF; rw [if_neg hb, if_neg (by simp [hs]), if_neg (by simp only [Classical.not_not]; exact ⟨⟨hlr, h1⟩, hlk, h2⟩)]
  have hF : formF g = match rulesF g 0 g.rules with
    | some p => p
    | none => if g.forbid.any (fun f => !decide (forbOk g f)) = true then (-1, 6) else (-1, 0) := by unfold formF; rw [if_neg (by simp [hw])]; try rfl
  clear one hw hb hs hlr hlk
  have hrl := hg.rl
  repeat' (first | refine aops_end ?_ | refine aops_p tok rfl rfl rfl rfl ?_ | refine acode_if rfl ?_ | refine acode_seq ?_ | refine acode_region ?_ | refine acode_block ?_ | refine acode_skip ?_ | refine then_n ?_)
  refine acode_loopS (ι := Nat) (fun i => [(1, .pp (grC g)), (4, .int .i64 i)]) (fun _ => M) (fun i => g.rules.length - i) (fun i => i ≤ g.rules.length ∧ rulesF g i (g.rules.drop i) = rulesF g 0 g.rules) 0 ⟨Nat.zero_le _, rfl⟩ ⟨rfl, rfl, trivial⟩ rfl ?_
  rintro i ⟨hi, hr⟩
  repeat (first | refine aops_end ?_ | refine aops_p tok rfl rfl rfl rfl ?_ | refine acode_seq ?_ | refine acode_region ?_)
  refine acode_id rfl (fun e => ?_) (fun e => ?_)
  · have hlt : i < g.rules.length := by omega
    obtain ⟨r, hx⟩ : ∃ r, g.rules[i]? = some r := ⟨g.rules[i], List.getElem?_eq_getElem hlt⟩
    have hm := List.mem_of_getElem? hx
    have hdr : g.rules.drop i = r :: g.rules.drop (i + 1) := by
      rw [List.drop_eq_getElem_cons hlt]
      rw [List.getElem?_eq_getElem hlt] at hx
      rw [Option.some.inj hx]
    rw [hdr, rulesF] at hr
    obtain ⟨hrr, hrs⟩ := hg.rr r hm
    repeat (first | refine aops_p tok rfl rfl rfl rfl ?_ | refine acode_seq ?_ | refine acode_region ?_ | refine acode_block ?_ | refine acode_skip ?_ | refine then_n ?_)
    refine aops_ix tok (ruC r) rfl rfl rfl rfl (by omega) (by omega) (by simp [ruC]) (encs_at (e := ruC) (s := 3) (fun _ => rfl) (i := (i : Int).toNat) (by simpa using hx)) rfl rfl rfl ?_
    repeat (refine aops_p tok rfl rfl rfl rfl ?_)
    refine aops_alloc tok rfl rfl rfl rfl rfl rfl fun b => ?_
    repeat (refine aops_stn tok rfl rfl rfl rfl rfl rfl rfl rfl rfl ?_)
    refine aops_pubref0 5 rfl ?_
    refine aops_end ?_
    refine acode_seq ?_
    refine acode_join [(1, .pp (grC g)), (4, .int .i64 i), (5, .pp (ruC r)), (6, .bool (okR g r 0))] M ?_ ?_
    · have h0 : okR g r 0 = decide (isName g r.left) := by simp [okR]
      rw [h0]
      repeat' (first | refine aops_end ?_ | refine aops_o rfl rfl rfl ?_ | (refine aops_pd tok rfl rfl rfl rfl ?_ ?_ <;> intro e_) | refine aops_p tok rfl rfl rfl rfl ?_ | refine acode_region ?_)
      all_goals exact ⟨⟨rfl, rfl, rfl, by first | exact bt (by unfold isName; omega) | exact bf (by unfold isName; omega), trivial⟩, rfl⟩
    refine acode_seq ?_
    refine acode_seq ?_
    refine acode_region ?_
    repeat (refine aops_p tok rfl rfl rfl rfl ?_)
    refine aops_end ?_
    refine acode_join [(1, .pp (grC g)), (4, .int .i64 i), (5, .pp (ruC r)), (6, .bool (okR g r r.right.length))] M ?_ ?_
    · refine acode_block ?_
      refine acode_loopS (ι := Nat) (fun k => [(1, .pp (grC g)), (4, .int .i64 i), (5, .pp (ruC r)), (6, .bool (okR g r k)), (7, .int .i64 k)]) (fun _ => M) (fun k => r.right.length - k) (fun k => k ≤ r.right.length) 0 (Nat.zero_le _) ⟨rfl, rfl, rfl, rfl, rfl, trivial⟩ rfl ?_
      intro k hk
      cases hok : okR g r k with
      | false =>
        repeat' (first | refine aops_end ?_ | refine aops_o rfl rfl rfl ?_ | (refine aops_pd tok rfl rfl rfl rfl ?_ ?_ <;> intro e_) | refine aops_p tok rfl rfl rfl rfl ?_ | refine acode_if rfl ?_ | refine acode_seq ?_ | refine acode_region ?_)
        all_goals
          refine acode_exit ?_
          repeat (first | refine exit_then ?_ | refine exit_here ?_ | refine then_n ?_)
          exact ⟨⟨rfl, rfl, rfl, by rw [okR_false hok]; rfl, trivial⟩, rfl⟩
      | true =>
        repeat' (first | refine aops_end ?_ | refine aops_o rfl rfl rfl ?_ | (refine aops_pd tok rfl rfl rfl rfl ?_ ?_ <;> intro e_) | refine aops_p tok rfl rfl rfl rfl ?_ | refine acode_it rfl ?_ | refine acode_if rfl ?_ | refine acode_seq ?_ | refine acode_region ?_ | refine acode_block ?_ | refine acode_skip ?_ | refine then_n ?_)
        · obtain ⟨s, hsx⟩ : ∃ s, r.right[k]? = some s := ⟨r.right[k]'(by omega), List.getElem?_eq_getElem (by omega)⟩
          refine acode_drawT 7 mixed (by kernel_rfl) (by kernel_rfl) ?_
          repeat (refine seqT_p tok rfl rfl rfl rfl ?_)
          refine seqT_ix tok [A.int .i64 s] rfl rfl rfl rfl (by omega) (by omega) (by simp) (ints_at (j := k) (by simpa using hsx)) rfl rfl rfl ?_
          repeat (refine seqT_p tok rfl rfl rfl rfl ?_)
          refine seqT_call _ Try.func67 rfl rfl rfl rfl (symbol_calls (hrs s (List.mem_of_getElem? hsx)) _) rfl rfl rfl ?_
          refine SeqT.done ?_
          repeat (first | refine aops_end ?_ | refine aops_endb ?_ | refine aops_a tok rfl (by omega) (by omega) rfl rfl rfl ?_ | refine aops_p tok rfl rfl rfl rfl ?_ | refine acode_region ?_ | refine then_n ?_)
          refine ⟨k + 1, by omega, by omega, ⟨rfl, rfl, rfl, ?_, rfl, trivial⟩, rfl⟩
          show A.bool _ = A.bool _
          congr 1
          unfold okR at hok ⊢
          rw [List.take_add_one, hsx]
          simp only [Bool.and_eq_true] at hok
          simp [List.all_append, hok.1, hok.2]
        · refine acode_exit ?_
          repeat (first | refine exit_then ?_ | refine exit_here ?_ | refine then_n ?_)
          have hke : k = r.right.length := by omega
          subst hke
          exact ⟨⟨rfl, rfl, rfl, by rw [hok]; rfl, trivial⟩, rfl⟩
    have hend := okR_end (g := g) (r := r)
    cases hok : okR g r r.right.length with
    | false =>
      have hn : ¬ isName g r.left ∨ r.right.any (fun s => !decide (isSym g s)) = true := Classical.byContradiction fun h => by rw [hend.2 h] at hok; cases hok
      have hrf : ruleF g r = 6 := by unfold ruleF; rw [if_pos hn]
      rw [hrf, if_pos (by omega)] at hr
      rw [← hr] at hF
      rw [hF]
      repeat' (first | refine aops_end ?_ | refine aops_p tok rfl rfl rfl rfl ?_ | refine acode_it rfl ?_ | refine acode_seq ?_ | refine acode_region ?_ | refine acode_block ?_)
      refine acode_ret ?_
      repeat (first | refine ret_then ?_ | refine ret_block ?_)
      exact ⟨_, ⟨rfl, rfl⟩, _, _, rfl, resOf_tmp rfl, resOf_tmp rfl⟩
    | true =>
      have hn := hend.1 hok
      repeat' (first | refine aops_end ?_ | refine aops_o rfl rfl rfl ?_ | refine aops_a tok rfl (by omega) (by omega) rfl rfl rfl ?_ | (refine aops_pd tok rfl rfl rfl rfl ?_ ?_ <;> intro e_) | refine aops_p tok rfl rfl rfl rfl ?_ | refine acode_it rfl ?_ | refine acode_if rfl ?_ | refine acode_seq ?_ | refine acode_region ?_ | refine acode_block ?_ | refine acode_skip ?_ | refine then_n ?_ | refine block_n ?_)
      all_goals try
        (have hrf : ruleF g r = 3 := by unfold ruleF; rw [if_neg hn, if_pos (by omega)]
         rw [hrf, if_pos (by omega)] at hr
         rw [← hr] at hF
         rw [hF]
         refine acode_ret ?_
         repeat (first | refine ret_then ?_ | refine ret_block ?_)
         exact ⟨_, ⟨rfl, rfl⟩, _, _, rfl, resOf_tmp rfl, resOf_tmp rfl⟩)
      all_goals try
        (have hrf : ruleF g r = 1 := by unfold ruleF; rw [if_neg hn, if_neg (by omega), if_pos (by omega)]
         rw [hrf, if_pos (by omega)] at hr
         rw [← hr] at hF
         rw [hF]
         refine acode_ret ?_
         repeat (first | refine ret_then ?_ | refine ret_block ?_)
         exact ⟨_, ⟨rfl, rfl⟩, _, _, rfl, resOf_tmp rfl, resOf_tmp rfl⟩)
      have hrf : ruleF g r = 0 := by unfold ruleF; rw [if_neg hn, if_neg (by omega), if_neg (by omega)]
      rw [hrf, if_neg (by simp)] at hr
      exact ⟨i + 1, ⟨by omega, by rw [← hr]; rfl⟩, by omega, ⟨rfl, rfl, trivial⟩, rfl⟩
  · have hge : i = g.rules.length := by omega
    subst hge
    rw [List.drop_length, rulesF] at hr
    rw [← hr] at hF
    simp only at hF
    clear hr e hi
    refine acode_exit ?_
    repeat (first | refine exit_then ?_ | refine exit_here ?_ | refine then_n ?_)
    have hfo := hg.fo
    repeat' (first | refine aops_end ?_ | refine aops_p tok rfl rfl rfl rfl ?_ | refine acode_seq ?_ | refine acode_region ?_ | refine acode_block ?_)
    refine acode_loopS (ι := Nat) (fun i => [(1, .pp (grC g)), (8, .int .i64 i)]) (fun _ => M) (fun i => g.forbid.length - i) (fun i => i ≤ g.forbid.length ∧ (g.forbid.take i).any (fun f => !decide (forbOk g f)) = false) 0 ⟨Nat.zero_le _, by simp⟩ ⟨rfl, rfl, trivial⟩ rfl ?_
    rintro i ⟨hi, hr⟩
    repeat (first | refine aops_end ?_ | refine aops_p tok rfl rfl rfl rfl ?_ | refine acode_seq ?_ | refine acode_region ?_)
    refine acode_id rfl (fun e => ?_) (fun e => ?_)
    · have hlt : i < g.forbid.length := by omega
      obtain ⟨f, hx⟩ : ∃ f, g.forbid[i]? = some f := ⟨g.forbid[i], List.getElem?_eq_getElem hlt⟩
      have bad : ¬ forbOk g f → formF g = (-1, 6) := fun h => by
        rw [hF, if_pos (List.any_eq_true.2 ⟨f, List.mem_of_getElem? hx, by rw [decide_eq_false h]; rfl⟩)]
      have good : forbOk g f → (g.forbid.take (i + 1)).any (fun f => !decide (forbOk g f)) = false := fun h => by
        rw [List.take_add_one, hx]
        simp only [Option.toList, List.any_append, hr, List.any_cons, List.any_nil, decide_eq_true h]
        rfl
      repeat (first | refine aops_p tok rfl rfl rfl rfl ?_ | refine acode_seq ?_ | refine acode_region ?_ | refine acode_block ?_ | refine acode_skip ?_ | refine then_n ?_)
      refine aops_ix tok (f3C f) rfl rfl rfl rfl (by omega) (by omega) (by simp [f3C]) (encs_at (e := f3C) (s := 3) (fun _ => rfl) (i := (i : Int).toNat) (by simpa using hx)) rfl rfl rfl ?_
      repeat (refine aops_p tok rfl rfl rfl rfl ?_)
      refine aops_alloc tok rfl rfl rfl rfl rfl rfl fun b => ?_
      repeat (refine aops_stn tok rfl rfl rfl rfl rfl rfl rfl rfl rfl ?_)
      refine aops_pubref0 9 rfl ?_
      refine aops_end ?_
      refine acode_seq ?_
      refine acode_join [(1, .pp (grC g)), (8, .int .i64 i), (210, .bool (!decide (forbOk g f)))] M ?_ ?_
      · refine acode_drawT 63 mixed (by kernel_rfl) (by kernel_rfl) ?_
        repeat' (first | refine seqT_o rfl rfl rfl ?_ | (refine seqT_pd tok rfl rfl rfl rfl ?_ ?_ <;> intro e_) | refine seqT_p tok rfl rfl rfl rfl ?_ | refine seqT_ixa tok rfl rfl rfl (by decide) rfl rfl rfl rfl ?_)
        all_goals try
          (refine SeqT.done ?_
           refine aops_end ?_
           exact ⟨⟨rfl, rfl, by rw [decide_eq_false (fun h : forbOk g f => by obtain ⟨⟨_, _, _, _⟩, _, _⟩ := h; omega)]; rfl, trivial⟩, rfl⟩)
        have a0 : 0 ≤ f.1 := by omega
        have a1 : f.1 < g.rules.length := by omega
        have c0 : 0 ≤ f.2.2 := by omega
        have c1 : f.2.2 < g.rules.length := by omega
        have b0 : 0 ≤ f.2.1 := by omega
        refine seqT_ix tok (ruC (ruleAt g f.1)) rfl rfl rfl rfl a0 a1 (by simp [ruC]) (encs_at (e := ruC) (s := 3) (fun _ => rfl) (ruleAt_at a0 a1)) rfl rfl rfl ?_
        repeat' (first | refine seqT_o rfl rfl rfl ?_ | (refine seqT_pd tok rfl rfl rfl rfl ?_ ?_ <;> intro e_) | refine seqT_p tok rfl rfl rfl rfl ?_ | refine seqT_ixa tok rfl rfl rfl (by decide) rfl rfl rfl rfl ?_)
        all_goals try
          (refine SeqT.done ?_
           refine aops_end ?_
           exact ⟨⟨rfl, rfl, by rw [decide_eq_false (fun h : forbOk g f => by obtain ⟨⟨_, _, _, _⟩, _, _⟩ := h; omega)]; rfl, trivial⟩, rfl⟩)
        have b1 : f.2.1 < (ruleAt g f.1).right.length := by omega
        refine seqT_ix tok (ruC (ruleAt g f.1)) rfl rfl rfl rfl a0 a1 (by simp [ruC]) (encs_at (e := ruC) (s := 3) (fun _ => rfl) (ruleAt_at a0 a1)) rfl rfl rfl ?_
        repeat (first | refine seqT_p tok rfl rfl rfl rfl ?_ | refine seqT_ixa tok rfl rfl rfl (by decide) rfl rfl rfl rfl ?_)
        refine seqT_ix tok [A.int .i64 ((ruleAt g f.1).right.getD f.2.1.toNat 0)] rfl rfl rfl rfl b0 b1 (by simp) (ints_at (int_at b0 b1)) rfl rfl rfl ?_
        repeat (first | refine seqT_p tok rfl rfl rfl rfl ?_ | refine seqT_ixa tok rfl rfl rfl (by decide) rfl rfl rfl rfl ?_)
        refine seqT_ix tok (ruC (ruleAt g f.2.2)) rfl rfl rfl rfl c0 c1 (by simp [ruC]) (encs_at (e := ruC) (s := 3) (fun _ => rfl) (ruleAt_at c0 c1)) rfl rfl rfl ?_
        repeat' (first | (refine seqT_pn tok rfl rfl rfl rfl ?_ ?_ <;> intro e_) | refine seqT_p tok rfl rfl rfl rfl ?_)
        · refine SeqT.done ?_
          refine aops_end ?_
          exact ⟨⟨rfl, rfl, by rw [decide_eq_false (fun h : forbOk g f => e_ h.2.2)]; rfl, trivial⟩, rfl⟩
        · refine SeqT.done ?_
          refine aops_end ?_
          exact ⟨⟨rfl, rfl, by rw [decide_eq_true (show forbOk g f from ⟨⟨a0, a1, c0, c1⟩, ⟨b0, b1⟩, e_⟩)]; rfl, trivial⟩, rfl⟩
      · by_cases hfb : forbOk g f
        · rw [decide_eq_true hfb]
          repeat' (first | refine aops_end ?_ | refine aops_a tok rfl (by omega) (by omega) rfl rfl rfl ?_ | refine aops_p tok rfl rfl rfl rfl ?_ | refine acode_if rfl ?_ | refine acode_region ?_ | refine acode_skip ?_ | refine then_n ?_ | refine block_n ?_)
          exact ⟨i + 1, ⟨by omega, good hfb⟩, by omega, ⟨rfl, rfl, trivial⟩, rfl⟩
        · rw [decide_eq_false hfb, bad hfb]
          repeat' (first | refine aops_end ?_ | refine aops_p tok rfl rfl rfl rfl ?_ | refine acode_it rfl ?_ | refine acode_seq ?_ | refine acode_region ?_)
          refine acode_ret ?_
          repeat (first | refine ret_then ?_ | refine ret_block ?_)
          exact ⟨_, ⟨rfl, rfl⟩, _, _, rfl, resOf_tmp rfl, resOf_tmp rfl⟩
    · have hge : i = g.forbid.length := by omega
      subst hge
      rw [List.take_length] at hr
      rw [hF, hr, if_neg (by simp)]
      refine acode_exit ?_
      repeat (first | refine exit_then ?_ | refine exit_here ?_ | refine then_n ?_)
      repeat (first | refine aops_end ?_ | refine aops_p tok rfl rfl rfl rfl ?_ | refine acode_seq ?_ | refine acode_region ?_)
      refine acode_ret ?_
      skip
      exact ⟨_, ⟨rfl, rfl⟩, _, _, rfl, resOf_tmp rfl, resOf_tmp rfl⟩
end Go.Proofs.Ytbnhmioijeagiaa.Ab
/- Package grammar's Good, pulled out of Gra1, Gra2, Gra3, Set1 (printed by genchk.py) -/
set_option linter.unusedVariables false
set_option linter.unusedSimpArgs false
namespace Go.Proofs.Ytbnhmioijeagiaa.Ab
attribute [local irreducible] thenA inBlockA ACode AOps put IntKind.wrap

theorem ixI_calls {l : List Int} {f : Nat} {cap : List A} {fn : Func} (p : Int → Bool) (hf : Try.prog.funcs[f]? = some fn) (hfn : callable fn = true) (hp : ∀ x ∈ l, ∀ M, ACalls Try.prog f ([.int .i64 x] ++ cap) M (fun r M' => r = .bool (p x) ∧ M' = M)) (hl : l.length ≤ 9223372036854775807) (M : List Ob) :
    ACalls Try.prog 117 [.psl l.length (ints l), .fn f cap] M (fun r M' => (∃ k : Int, r = .int .i64 k ∧ decide (0 ≤ k) = l.any p) ∧ M' = M) := by
  refine acalls_of_code 19 Try.func117 rfl rfl rfl ?_
  repeat (first | refine aops_end ?_ | refine aops_p tok rfl rfl rfl rfl ?_ | refine acode_seq ?_ | refine acode_region ?_ | refine acode_block ?_)
  refine acode_loopS (ι := Nat) (fun i => [(0, .psl l.length (ints l)), (1, .fn f cap), (7, .int .i64 l.length), (8, .int .i64 i)]) (fun _ => M) (fun i => l.length - i) (fun i => i ≤ l.length ∧ (l.take i).any p = false) 0 ⟨Nat.zero_le _, by simp⟩ ⟨rfl, rfl, rfl, rfl, trivial⟩ rfl ?_
  rintro i ⟨hi, hn⟩
  repeat (first | refine aops_end ?_ | refine aops_p tok rfl rfl rfl rfl ?_ | refine acode_seq ?_ | refine acode_region ?_)
  refine acode_id rfl (fun e => ?_) (fun e => ?_)
  · have hlt : i < l.length := by omega
    obtain ⟨x, hx⟩ : ∃ x, l[i]? = some x := ⟨l[i], List.getElem?_eq_getElem hlt⟩
    repeat (first | refine aops_end ?_ | refine aops_p tok rfl rfl rfl rfl ?_ | refine acode_seq ?_ | refine acode_region ?_ | refine acode_block ?_ | refine acode_skip ?_ | refine then_n ?_)
    refine aops_index tok [A.int .i64 x] rfl rfl rfl rfl (by omega) (by omega) (by simp) (ints_at (j := i) (by simpa using hx)) rfl rfl ?_
    repeat (first | refine aops_put rfl ?_ | refine aops_p tok rfl rfl rfl rfl ?_)
    refine aops_callx hf rfl rfl hfn rfl (hp x (List.mem_of_getElem? hx) _) rfl rfl rfl ?_
    refine aops_end ?_
    refine acode_cond rfl (fun e => ?_) (fun e => ?_)
    · repeat (first | refine aops_end ?_ | refine aops_p tok rfl rfl rfl rfl ?_ | refine acode_seq ?_ | refine acode_region ?_)
      refine acode_ret ?_
      repeat (first | refine ret_then ?_ | refine ret_block ?_)
      refine ⟨_, ⟨⟨_, rfl, ?_⟩, rfl⟩, resOf_tmp rfl⟩
      have : l.any p = true := List.any_eq_true.2 ⟨x, List.mem_of_getElem? hx, e⟩
      rw [this]; simp
    · repeat (first | refine aops_end ?_ | refine aops_a tok rfl (by omega) (by omega) rfl rfl rfl ?_ | refine aops_p tok rfl rfl rfl rfl ?_ | refine acode_region ?_ | refine acode_skip ?_ | refine then_n ?_ | refine block_n ?_)
      refine ⟨i + 1, ⟨by omega, ?_⟩, by omega, ⟨rfl, rfl, rfl, rfl, trivial⟩, rfl⟩
      rw [List.take_add_one, hx]
      simp [hn, e]
  · have hge : i = l.length := by omega
    subst hge
    refine acode_exit ?_
    repeat (first | refine exit_then ?_ | refine exit_here ?_ | refine then_n ?_)
    repeat (first | refine aops_end ?_ | refine aops_p tok rfl rfl rfl rfl ?_ | refine acode_seq ?_ | refine acode_region ?_)
    refine acode_ret ?_
    skip
    refine ⟨_, ⟨⟨_, rfl, ?_⟩, rfl⟩, resOf_tmp rfl⟩
    rw [List.take_length] at hn
    rw [hn]; rfl
theorem cfI_calls {l : List Int} {f : Nat} {cap : List A} {fn : Func} (p : Int → Bool) (hf : Try.prog.funcs[f]? = some fn) (hfn : callable fn = true) (hp : ∀ x ∈ l, ∀ M, ACalls Try.prog f ([.int .i64 x] ++ cap) M (fun r M' => r = .bool (p x) ∧ M' = M)) (hl : l.length ≤ 9223372036854775807) (M : List Ob) :
    ACalls Try.prog 110 [.psl l.length (ints l), .fn f cap] M (fun r M' => r = .bool (l.any p) ∧ M' = M) := by
  refine acalls_of_code 9 Try.func110 rfl rfl rfl ?_
  repeat (first | refine aops_end ?_ | refine aops_p tok rfl rfl rfl rfl ?_ | refine acode_seq ?_ | refine acode_region ?_)
  refine aops_call Try.func117 rfl rfl rfl rfl (ixI_calls p hf hfn hp hl _) rfl rfl ?_
  rintro x M' ⟨⟨k, rfl, hk⟩, rfl⟩
  repeat (first | refine aops_put rfl ?_ | refine aops_end ?_ | refine aops_p tok rfl rfl rfl rfl ?_)
  refine acode_ret ?_
  skip
  exact ⟨_, ⟨rfl, rfl⟩, resOf_tmp (by show A.bool _ = A.bool _; rw [← hk])⟩
theorem ixF_calls {l : List (Int × Int × Int)} {f : Nat} {cap : List A} {fn : Func} (p : Int × Int × Int → Bool) (hf : Try.prog.funcs[f]? = some fn) (hfn : callable fn = true) (hp : ∀ x ∈ l, ∀ M, ACalls Try.prog f ([.agg (f3C x)] ++ cap) M (fun r M' => r = .bool (p x) ∧ M' = M)) (hl : l.length ≤ 9223372036854775807) (M : List Ob) :
    ACalls Try.prog 113 [.psl l.length (encs f3C l), .fn f cap] M (fun r M' => (∃ k : Int, r = .int .i64 k ∧ decide (0 ≤ k) = l.any p) ∧ M' = M) := by
  refine acalls_of_code 19 Try.func113 rfl rfl rfl ?_
  repeat (first | refine aops_end ?_ | refine aops_p tok rfl rfl rfl rfl ?_ | refine acode_seq ?_ | refine acode_region ?_ | refine acode_block ?_)
  refine acode_loopS (ι := Nat) (fun i => [(0, .psl l.length (encs f3C l)), (1, .fn f cap), (7, .int .i64 l.length), (8, .int .i64 i)]) (fun _ => M) (fun i => l.length - i) (fun i => i ≤ l.length ∧ (l.take i).any p = false) 0 ⟨Nat.zero_le _, by simp⟩ ⟨rfl, rfl, rfl, rfl, trivial⟩ rfl ?_
  rintro i ⟨hi, hn⟩
  repeat (first | refine aops_end ?_ | refine aops_p tok rfl rfl rfl rfl ?_ | refine acode_seq ?_ | refine acode_region ?_)
  refine acode_id rfl (fun e => ?_) (fun e => ?_)
  · have hlt : i < l.length := by omega
    obtain ⟨x, hx⟩ : ∃ x, l[i]? = some x := ⟨l[i], List.getElem?_eq_getElem hlt⟩
    repeat (first | refine aops_end ?_ | refine aops_p tok rfl rfl rfl rfl ?_ | refine acode_seq ?_ | refine acode_region ?_ | refine acode_block ?_ | refine acode_skip ?_ | refine then_n ?_)
    refine aops_index tok (f3C x) rfl rfl rfl rfl (by omega) (by omega) (by simp [f3C]) (encs_at (e := f3C) (s := 3) (fun _ => rfl) (i := (i : Int).toNat) (by simpa using hx)) rfl rfl ?_
    repeat (first | refine aops_put rfl ?_ | refine aops_p tok rfl rfl rfl rfl ?_)
    refine aops_callx hf rfl rfl hfn rfl (hp x (List.mem_of_getElem? hx) _) rfl rfl rfl ?_
    refine aops_end ?_
    refine acode_cond rfl (fun e => ?_) (fun e => ?_)
    · repeat (first | refine aops_end ?_ | refine aops_p tok rfl rfl rfl rfl ?_ | refine acode_seq ?_ | refine acode_region ?_)
      refine acode_ret ?_
      repeat (first | refine ret_then ?_ | refine ret_block ?_)
      refine ⟨_, ⟨⟨_, rfl, ?_⟩, rfl⟩, resOf_tmp rfl⟩
      have : l.any p = true := List.any_eq_true.2 ⟨x, List.mem_of_getElem? hx, e⟩
      rw [this]; simp
    · repeat (first | refine aops_end ?_ | refine aops_a tok rfl (by omega) (by omega) rfl rfl rfl ?_ | refine aops_p tok rfl rfl rfl rfl ?_ | refine acode_region ?_ | refine acode_skip ?_ | refine then_n ?_ | refine block_n ?_)
      refine ⟨i + 1, ⟨by omega, ?_⟩, by omega, ⟨rfl, rfl, rfl, rfl, trivial⟩, rfl⟩
      rw [List.take_add_one, hx]
      simp [hn, e]
  · have hge : i = l.length := by omega
    subst hge
    refine acode_exit ?_
    repeat (first | refine exit_then ?_ | refine exit_here ?_ | refine then_n ?_)
    repeat (first | refine aops_end ?_ | refine aops_p tok rfl rfl rfl rfl ?_ | refine acode_seq ?_ | refine acode_region ?_)
    refine acode_ret ?_
    skip
    refine ⟨_, ⟨⟨_, rfl, ?_⟩, rfl⟩, resOf_tmp rfl⟩
    rw [List.take_length] at hn
    rw [hn]; rfl
theorem cfF_calls {l : List (Int × Int × Int)} {f : Nat} {cap : List A} {fn : Func} (p : Int × Int × Int → Bool) (hf : Try.prog.funcs[f]? = some fn) (hfn : callable fn = true) (hp : ∀ x ∈ l, ∀ M, ACalls Try.prog f ([.agg (f3C x)] ++ cap) M (fun r M' => r = .bool (p x) ∧ M' = M)) (hl : l.length ≤ 9223372036854775807) (M : List Ob) :
    ACalls Try.prog 98 [.psl l.length (encs f3C l), .fn f cap] M (fun r M' => r = .bool (l.any p) ∧ M' = M) := by
  refine acalls_of_code 9 Try.func98 rfl rfl rfl ?_
  repeat (first | refine aops_end ?_ | refine aops_p tok rfl rfl rfl rfl ?_ | refine acode_seq ?_ | refine acode_region ?_)
  refine aops_call Try.func113 rfl rfl rfl rfl (ixF_calls p hf hfn hp hl _) rfl rfl ?_
  rintro x M' ⟨⟨k, rfl, hk⟩, rfl⟩
  repeat (first | refine aops_put rfl ?_ | refine aops_end ?_ | refine aops_p tok rfl rfl rfl rfl ?_)
  refine acode_ret ?_
  skip
  exact ⟨_, ⟨rfl, rfl⟩, resOf_tmp (by show A.bool _ = A.bool _; rw [← hk])⟩
theorem isName_calls {g : Gr} {s : Int} (M : List Ob) : ACalls Try.prog 108 [grA g, .int .i64 s] M (fun r M' => r = .bool (decide (isName g s)) ∧ M' = M) := by
  refine acalls_of_code 13 Try.func108 rfl rfl rfl ?_
  repeat (first | refine acode_seq ?_ | refine acode_region ?_)
  refine aops_boxf rfl rfl rfl rfl rfl rfl rfl ?_
  repeat' (first | refine aops_end ?_ | refine aops_o rfl rfl rfl ?_ | (refine aops_pd tok rfl rfl rfl rfl ?_ ?_ <;> intro e_) | refine aops_p tok rfl rfl rfl rfl ?_ | refine acode_seq ?_ | refine acode_region ?_)
  all_goals
    refine acode_ret ?_
    skip
    exact ⟨.bool (decide (isName g s)), ⟨rfl, rfl⟩, resOf_tmp (by first | exact bt (by unfold isName; omega) | exact bf (by unfold isName; omega))⟩
theorem kindOf_calls {g : Gr} {s : Int} (hs : rng s) (M : List Ob) : ACalls Try.prog 118 [grA g, .int .i64 s] M (fun r M' => r = .tup [.int .i64 (-1 - s), .bool (decide (isKind g s))] ∧ M' = M) := by
  obtain ⟨s0, s1⟩ := hs
  refine acalls_of_code 18 Try.func118 rfl rfl rfl ?_
  repeat (first | refine acode_seq ?_ | refine acode_region ?_)
  refine aops_boxf rfl rfl rfl rfl rfl rfl rfl ?_
  repeat (first | refine aops_end ?_ | refine aops_a tok rfl (by omega) (by omega) rfl rfl rfl ?_ | refine aops_p tok rfl rfl rfl rfl ?_ | refine acode_seq ?_ | refine acode_region ?_)
  refine acode_drawT 11 mixed (by kernel_rfl) (by kernel_rfl) ?_
  repeat' (first | refine seqT_o rfl rfl rfl ?_ | (refine seqT_pd tok rfl rfl rfl rfl ?_ ?_ <;> intro e_) | refine seqT_p tok rfl rfl rfl rfl ?_)
  all_goals
    refine SeqT.done ?_
    repeat (refine aops_end ?_)
    refine acode_ret ?_
    skip
    exact ⟨.tup [.int .i64 (-1 - s), .bool (decide (isKind g s))], ⟨rfl, rfl⟩, _, _, rfl, resOf_tmp rfl, resOf_tmp (by first | exact bt (by unfold isKind; omega) | exact bf (by unfold isKind; omega))⟩
theorem isSym_calls {g : Gr} {s : Int} (hs : rng s) (M : List Ob) : ACalls Try.prog 112 [grA g, .int .i64 s] M (fun r M' => r = .bool (decide (isSym g s)) ∧ M' = M) := by
  refine acalls_of_code 19 Try.func112 rfl rfl rfl ?_
  repeat (first | refine acode_seq ?_ | refine acode_region ?_)
  refine aops_boxf rfl rfl rfl rfl rfl rfl rfl ?_
  repeat (first | refine aops_end ?_ | refine aops_p tok rfl rfl rfl rfl ?_ | refine acode_seq ?_ | refine acode_region ?_)
  refine aops_callx Try.func118 rfl rfl rfl rfl (kindOf_calls hs _) rfl rfl rfl ?_
  by_cases h : isKind g s
  · rw [decide_eq_true h]
    repeat (first | refine aops_end ?_ | refine aops_o rfl rfl rfl ?_ | refine aops_p tok rfl rfl rfl rfl ?_ | refine acode_seq ?_ | refine acode_region ?_)
    refine acode_ret ?_
    skip
    exact ⟨.bool (decide (isSym g s)), ⟨rfl, rfl⟩, resOf_tmp (bt (.inl h))⟩
  · rw [decide_eq_false h]
    repeat (first | refine aops_end ?_ | refine aops_p tok rfl rfl rfl rfl ?_ | refine acode_seq ?_ | refine acode_region ?_)
    refine aops_callx Try.func108 rfl rfl rfl rfl (isName_calls _) rfl rfl rfl ?_
    repeat (first | refine aops_end ?_ | refine aops_p tok rfl rfl rfl rfl ?_)
    refine acode_ret ?_
    skip
    refine ⟨.bool (decide (isSym g s)), ⟨rfl, rfl⟩, resOf_tmp ?_⟩
    show A.bool _ = A.bool _
    congr 1
    rw [Bool.eq_iff_iff]
    simp only [decide_eq_true_eq]
    exact ⟨.inr, fun h' => h'.resolve_left h⟩
theorem ruleNot_calls {g : Gr} {s : Int} (hs : rng s) (M : List Ob) : ACalls Try.prog 111 [.int .i64 s, .pp (grC g)] M (fun r M' => r = .bool (!decide (isSym g s)) ∧ M' = M) := by
  refine acalls_of_code 8 Try.func111 rfl rfl rfl ?_
  repeat (first | refine aops_end ?_ | refine aops_p tok rfl rfl rfl rfl ?_ | refine acode_seq ?_ | refine acode_region ?_)
  refine aops_callx Try.func112 rfl rfl rfl rfl (isSym_calls hs _) rfl rfl rfl ?_
  repeat (first | refine aops_end ?_ | refine aops_p tok rfl rfl rfl rfl ?_)
  refine acode_ret ?_
  skip
  exact ⟨_, ⟨rfl, rfl⟩, resOf_tmp rfl⟩
theorem classNot_calls {c : Int} (M : List Ob) : ACalls Try.prog 116 [.int .i64 c] M (fun r M' => r = .bool (badC c) ∧ M' = M) := by
  refine acalls_of_code 9 Try.func116 rfl rfl rfl ?_
  repeat' (first | refine aops_end ?_ | refine aops_o rfl rfl rfl ?_ | (refine aops_pd tok rfl rfl rfl rfl ?_ ?_ <;> intro e_) | refine aops_p tok rfl rfl rfl rfl ?_ | refine acode_seq ?_ | refine acode_region ?_)
  all_goals
    refine acode_ret ?_
    skip
    exact ⟨.bool (badC c), ⟨rfl, rfl⟩, resOf_tmp (by first | exact bt (by omega) | exact bf (by omega))⟩
theorem classes_calls {l : List Int} {n : Int} (hl : l.length ≤ 9223372036854775807) (M : List Ob) : ACalls Try.prog 109 [.psl l.length (ints l), .int .i64 n] M (fun r M' => r = .bool (decide (clsOk l n)) ∧ M' = M) := by
  refine acalls_of_code 14 Try.func109 rfl rfl rfl ?_
  repeat' (first | refine aops_end ?_ | refine aops_o rfl rfl rfl ?_ | (refine aops_pd tok rfl rfl rfl rfl ?_ ?_ <;> intro e_) | refine aops_p tok rfl rfl rfl rfl ?_ | refine acode_seq ?_ | refine acode_region ?_)
  · refine aops_callx Try.func110 rfl rfl rfl rfl (cfI_calls badC Try.func116 rfl (fun x _ M => classNot_calls M) hl _) rfl rfl rfl ?_
    repeat (first | refine aops_end ?_ | refine aops_p tok rfl rfl rfl rfl ?_)
    refine acode_ret ?_
    skip
    refine ⟨.bool (decide (clsOk l n)), ⟨rfl, rfl⟩, resOf_tmp ?_⟩
    show A.bool _ = A.bool _
    congr 1
    rw [Bool.eq_iff_iff]
    simp only [decide_eq_true_eq, Bool.not_eq_true']
    exact ⟨fun h => ⟨by omega, h⟩, fun h => h.2⟩
  · refine acode_ret ?_
    skip
    exact ⟨.bool (decide (clsOk l n)), ⟨rfl, rfl⟩, resOf_tmp (bf (fun h => by have := h.1; omega))⟩
theorem whole_calls {g : Gr} (hg : GrOk g) (M : List Ob) : ACalls Try.prog 96 [grA g] M (fun r M' => r = .int .i64 (wholeF g) ∧ M' = M) := by
  refine acalls_of_code 56 Try.func96 rfl rfl rfl ?_
  repeat (first | refine acode_seq ?_ | refine acode_region ?_)
  refine aops_boxf rfl rfl rfl rfl rfl rfl rfl ?_
  repeat' (first | refine aops_end ?_ | refine aops_o rfl rfl rfl ?_ | (refine aops_pd tok rfl rfl rfl rfl ?_ ?_ <;> intro e_) | refine aops_p tok rfl rfl rfl rfl ?_ | refine acode_it rfl ?_ | refine acode_if rfl ?_ | refine acode_seq ?_ | refine acode_region ?_ | refine acode_block ?_)
  all_goals try
    (refine acode_ret ?_
     repeat (first | refine ret_then ?_ | refine ret_block ?_)
     exact ⟨.int .i64 (wholeF g), ⟨rfl, rfl⟩, resOf_tmp (by unfold wholeF; rw [if_pos (by unfold bigB; omega)]; rfl)⟩)
  have hb : ¬ bigB g := by unfold bigB; omega
  refine aops_callb Try.func108 rfl rfl rfl rfl (isName_calls _) rfl rfl rfl (fun h => ?_) (fun h => ?_)
  · repeat' (first | refine aops_end ?_ | refine aops_p tok rfl rfl rfl rfl ?_ | refine acode_if rfl ?_ | refine acode_seq ?_ | refine acode_region ?_)
    refine aops_callb Try.func109 rfl rfl rfl rfl (classes_calls hg.rc _) rfl rfl rfl (fun h1 => ?_) (fun h1 => ?_)
    · repeat' (refine aops_p tok rfl rfl rfl rfl ?_)
      refine aops_callb Try.func109 rfl rfl rfl rfl (classes_calls hg.kc _) rfl rfl rfl (fun h2 => ?_) (fun h2 => ?_)
      · repeat' (first | refine aops_end ?_ | refine aops_p tok rfl rfl rfl rfl ?_ | refine acode_if rfl ?_ | refine acode_seq ?_ | refine acode_region ?_ | refine acode_skip ?_ | refine then_n ?_ | refine block_n ?_)
        refine acode_ret ?_
        skip
        exact ⟨.int .i64 (wholeF g), ⟨rfl, rfl⟩, resOf_tmp (by unfold wholeF; rw [if_neg hb, if_neg (by simp [h]), if_neg (by simp [h1, h2])]; rfl)⟩
      · repeat' (first | refine aops_end ?_ | refine aops_p tok rfl rfl rfl rfl ?_ | refine acode_it rfl ?_ | refine acode_seq ?_ | refine acode_region ?_)
        refine acode_ret ?_
        repeat (first | refine ret_then ?_ | refine ret_block ?_)
        exact ⟨.int .i64 (wholeF g), ⟨rfl, rfl⟩, resOf_tmp (by unfold wholeF; rw [if_neg hb, if_neg (by simp [h]), if_pos (by simp [h2])]; rfl)⟩
    · repeat' (first | refine aops_end ?_ | refine aops_o rfl rfl rfl ?_ | refine aops_p tok rfl rfl rfl rfl ?_ | refine acode_it rfl ?_ | refine acode_seq ?_ | refine acode_region ?_)
      refine acode_ret ?_
      repeat (first | refine ret_then ?_ | refine ret_block ?_)
      exact ⟨.int .i64 (wholeF g), ⟨rfl, rfl⟩, resOf_tmp (by unfold wholeF; rw [if_neg hb, if_neg (by simp [h]), if_pos (by simp [h1])]; rfl)⟩
  · repeat' (first | refine aops_end ?_ | refine aops_p tok rfl rfl rfl rfl ?_ | refine acode_it rfl ?_ | refine acode_seq ?_ | refine acode_region ?_)
    refine acode_ret ?_
    repeat (first | refine ret_then ?_ | refine ret_block ?_)
    exact ⟨.int .i64 (wholeF g), ⟨rfl, rfl⟩, resOf_tmp (by unfold wholeF; rw [if_neg hb, if_pos (by simp [h])]; rfl)⟩
theorem rule_calls {g : Gr} {r : Ru} (hr : r.right.length ≤ 9223372036854775807) (hs : ∀ s ∈ r.right, rng s) (M : List Ob) : ACalls Try.prog 97 [grA g, .agg (ruC r)] M (fun x M' => x = .int .i64 (ruleF g r) ∧ M' = M) := by
  refine acalls_of_code 31 Try.func97 rfl rfl rfl ?_
  repeat (first | refine acode_seq ?_ | refine acode_region ?_)
  refine aops_boxf rfl rfl rfl rfl rfl rfl rfl ?_
  skip
  refine aops_boxf rfl rfl rfl rfl rfl rfl rfl ?_
  repeat (first | refine aops_end ?_ | refine aops_p tok rfl rfl rfl rfl ?_ | refine acode_seq ?_ | refine acode_region ?_ | refine acode_block ?_)
  refine aops_callb Try.func108 rfl rfl rfl rfl (isName_calls _) rfl rfl rfl (fun h => ?_) (fun h => ?_)
  · repeat' (refine aops_p tok rfl rfl rfl rfl ?_)
    refine aops_callx Try.func110 rfl rfl rfl rfl (cfI_calls (fun s => !decide (isSym g s)) Try.func111 rfl (fun x hx M => ruleNot_calls (hs x hx) M) hr _) rfl rfl rfl ?_
    cases h1 : r.right.any (fun s => !decide (isSym g s)) with
    | true =>
      repeat' (first | refine aops_end ?_ | refine aops_p tok rfl rfl rfl rfl ?_ | refine acode_it rfl ?_ | refine acode_seq ?_ | refine acode_region ?_)
      refine acode_ret ?_
      repeat (first | refine ret_then ?_ | refine ret_block ?_)
      exact ⟨.int .i64 (ruleF g r), ⟨rfl, rfl⟩, resOf_tmp (by unfold ruleF; rw [if_pos (.inr h1)]; rfl)⟩
    | false =>
      have h2 : ¬ (¬ isName g r.left ∨ r.right.any (fun s => !decide (isSym g s)) = true) := by rw [h1]; simp [h]
      repeat' (first | refine aops_end ?_ | refine aops_o rfl rfl rfl ?_ | (refine aops_pd tok rfl rfl rfl rfl ?_ ?_ <;> intro e_) | refine aops_p tok rfl rfl rfl rfl ?_ | refine acode_it rfl ?_ | refine acode_if rfl ?_ | refine acode_seq ?_ | refine acode_region ?_ | refine acode_skip ?_ | refine then_n ?_ | refine block_n ?_)
      all_goals
        refine acode_ret ?_
        repeat (first | refine ret_then ?_ | refine ret_block ?_)
        refine ⟨.int .i64 (ruleF g r), ⟨rfl, rfl⟩, resOf_tmp ?_⟩
        unfold ruleF
        rw [if_neg h2]
        first
          | (rw [if_pos (by omega)]; rfl)
          | (rw [if_neg (by omega), if_pos (by omega)]; rfl)
          | (rw [if_neg (by omega), if_neg (by omega)]; rfl)
  · repeat' (first | refine aops_end ?_ | refine aops_o rfl rfl rfl ?_ | refine aops_p tok rfl rfl rfl rfl ?_ | refine acode_it rfl ?_ | refine acode_seq ?_ | refine acode_region ?_)
    refine acode_ret ?_
    repeat (first | refine ret_then ?_ | refine ret_block ?_)
    exact ⟨.int .i64 (ruleF g r), ⟨rfl, rfl⟩, resOf_tmp (by unfold ruleF; rw [if_pos (.inl h)]; rfl)⟩
set_option maxHeartbeats 2000000 in
theorem forbid_calls {g : Gr} {f : Int × Int × Int} (M : List Ob) : ACalls Try.prog 100 [grA g, .agg (f3C f)] M (fun x M' => x = .bool (decide (forbOk g f)) ∧ M' = M) := by
  refine acalls_of_code 62 Try.func100 rfl rfl rfl ?_
  repeat (first | refine acode_seq ?_ | refine acode_region ?_)
  refine aops_boxf rfl rfl rfl rfl rfl rfl rfl ?_
  skip
  refine aops_boxf rfl rfl rfl rfl rfl rfl rfl ?_
  repeat' (first | refine aops_end ?_ | refine aops_o rfl rfl rfl ?_ | (refine aops_pd tok rfl rfl rfl rfl ?_ ?_ <;> intro e_) | refine aops_p tok rfl rfl rfl rfl ?_ | refine acode_it rfl ?_ | refine acode_if rfl ?_ | refine aops_ixa tok rfl rfl rfl (by decide) rfl rfl rfl rfl ?_ | refine acode_seq ?_ | refine acode_region ?_ | refine acode_skip ?_ | refine then_n ?_)
  all_goals try
    (refine acode_ret ?_
     repeat (refine ret_then ?_)
     exact ⟨.bool (decide (forbOk g f)), ⟨rfl, rfl⟩, resOf_tmp (bf (fun h => by obtain ⟨⟨_, _, _, _⟩, _, _⟩ := h; omega))⟩)
  have a0 : 0 ≤ f.1 := by omega
  have a1 : f.1 < g.rules.length := by omega
  have c0 : 0 ≤ f.2.2 := by omega
  have c1 : f.2.2 < g.rules.length := by omega
  refine aops_ix tok (ruC (ruleAt g f.1)) rfl rfl rfl rfl a0 a1 (by simp [ruC]) (encs_at (e := ruC) (s := 3) (fun _ => rfl) (ruleAt_at a0 a1)) rfl rfl rfl ?_
  repeat (first | refine aops_end ?_ | refine aops_p tok rfl rfl rfl rfl ?_ | refine acode_seq ?_)
  refine acode_drawT 25 mixed (by kernel_rfl) (by kernel_rfl) ?_
  repeat' (first | refine seqT_o rfl rfl rfl ?_ | (refine seqT_pd tok rfl rfl rfl rfl ?_ ?_ <;> intro e_) | refine seqT_p tok rfl rfl rfl rfl ?_ | refine seqT_ixa tok rfl rfl rfl (by decide) rfl rfl rfl rfl ?_)
  all_goals try
    (refine SeqT.done ?_
     repeat (first | refine aops_end ?_ | refine aops_p tok rfl rfl rfl rfl ?_)
     refine acode_ret ?_
     skip
     exact ⟨.bool (decide (forbOk g f)), ⟨rfl, rfl⟩, resOf_tmp (bf (fun h => by obtain ⟨⟨_, _, _, _⟩, _, _⟩ := h; omega))⟩)
  have b0 : 0 ≤ f.2.1 := by omega
  have b1 : f.2.1 < (ruleAt g f.1).right.length := by omega
  refine seqT_ix tok [A.int .i64 ((ruleAt g f.1).right.getD f.2.1.toNat 0)] rfl rfl rfl rfl b0 b1 (by simp) (ints_at (int_at b0 b1)) rfl rfl rfl ?_
  repeat (first | refine seqT_p tok rfl rfl rfl rfl ?_ | refine seqT_ixa tok rfl rfl rfl (by decide) rfl rfl rfl rfl ?_)
  refine seqT_ix tok (ruC (ruleAt g f.2.2)) rfl rfl rfl rfl c0 c1 (by simp [ruC]) (encs_at (e := ruC) (s := 3) (fun _ => rfl) (ruleAt_at c0 c1)) rfl rfl rfl ?_
  repeat' (first | (refine seqT_pd tok rfl rfl rfl rfl ?_ ?_ <;> intro e_) | refine seqT_p tok rfl rfl rfl rfl ?_)
  all_goals
    refine SeqT.done ?_
    repeat (first | refine aops_end ?_ | refine aops_p tok rfl rfl rfl rfl ?_)
    refine acode_ret ?_
    skip
    exact ⟨.bool (decide (forbOk g f)), ⟨rfl, rfl⟩, resOf_tmp (by first | exact bt ⟨⟨a0, a1, c0, c1⟩, ⟨b0, b1⟩, by assumption⟩ | exact bf (fun h => by have := h.2.2; contradiction))⟩
theorem formNot_calls {g : Gr} {f : Int × Int × Int} (M : List Ob) : ACalls Try.prog 99 [.agg (f3C f), .pp (grC g)] M (fun x M' => x = .bool (!decide (forbOk g f)) ∧ M' = M) := by
  refine acalls_of_code 8 Try.func99 rfl rfl rfl ?_
  repeat (first | refine acode_seq ?_ | refine acode_region ?_)
  refine aops_boxf rfl rfl rfl rfl rfl rfl rfl ?_
  repeat (first | refine aops_end ?_ | refine aops_p tok rfl rfl rfl rfl ?_ | refine acode_seq ?_ | refine acode_region ?_)
  refine aops_callx Try.func100 rfl rfl rfl rfl (forbid_calls _) rfl rfl rfl ?_
  repeat (first | refine aops_end ?_ | refine aops_p tok rfl rfl rfl rfl ?_)
  refine acode_ret ?_
  skip
  exact ⟨_, ⟨rfl, rfl⟩, resOf_tmp rfl⟩
set_option maxHeartbeats 2000000 in
theorem form_calls {g : Gr} (hg : GrOk g) (M : List Ob) : ACalls Try.prog 81 [grA g] M (fun x M' => x = tup2 (formF g) ∧ M' = M) := by
  refine acalls_of_code 33 Try.func81 rfl rfl rfl ?_
  repeat (first | refine acode_seq ?_ | refine acode_region ?_)
  refine aops_boxf rfl rfl rfl rfl rfl rfl rfl ?_
  repeat (first | refine aops_end ?_ | refine aops_p tok rfl rfl rfl rfl ?_ | refine acode_seq ?_ | refine acode_region ?_)
  refine aops_callx Try.func96 rfl rfl rfl rfl (whole_calls hg _) rfl rfl rfl ?_
  have h0 : wholeF g ≠ 0 → formF g = (-1, wholeF g) := fun h => by unfold formF; rw [if_pos h]
  have h1 : wholeF g = 0 → formF g = match rulesF g 0 g.rules with
    | some p => p
    | none => if g.forbid.any (fun f => !decide (forbOk g f)) = true then (-1, 6) else (-1, 0) := fun h => by unfold formF; exact (if_neg (by simp [h])).trans (by cases rulesF g 0 g.rules <;> rfl)
  generalize formF g = R at *
  generalize wholeF g = w at *
  repeat' (first | refine aops_end ?_ | (refine aops_pn tok rfl rfl rfl rfl ?_ ?_ <;> intro e_) | refine aops_p tok rfl rfl rfl rfl ?_ | refine acode_it rfl ?_ | refine acode_if rfl ?_ | refine acode_seq ?_ | refine acode_region ?_ | refine acode_block ?_ | refine acode_skip ?_ | refine then_n ?_)
  · rw [h0 e_]
    refine acode_ret ?_
    repeat (refine ret_then ?_)
    exact ⟨_, ⟨rfl, rfl⟩, _, _, rfl, resOf_tmp rfl, resOf_tmp rfl⟩
  have h1 := h1 e_
  clear h0
  refine acode_loopS (ι := Nat) (fun i => [(1, .pp (grC g)), (14, .psl g.rules.length (encs ruC g.rules)), (15, .int .i64 g.rules.length), (16, .int .i64 i)]) (fun _ => M) (fun i => g.rules.length - i) (fun i => i ≤ g.rules.length ∧ rulesF g i (g.rules.drop i) = rulesF g 0 g.rules) 0 ⟨Nat.zero_le _, rfl⟩ ⟨rfl, rfl, rfl, rfl, trivial⟩ rfl ?_
  rintro i ⟨hi, hr⟩
  have hrl := hg.rl
  repeat (first | refine aops_end ?_ | refine aops_p tok rfl rfl rfl rfl ?_ | refine acode_seq ?_ | refine acode_region ?_)
  refine acode_id rfl (fun e => ?_) (fun e => ?_)
  · have hlt : i < g.rules.length := by omega
    obtain ⟨r, hx⟩ : ∃ r, g.rules[i]? = some r := ⟨g.rules[i], List.getElem?_eq_getElem hlt⟩
    have hm := List.mem_of_getElem? hx
    have hdr : g.rules.drop i = r :: g.rules.drop (i + 1) := by
      rw [List.drop_eq_getElem_cons hlt]
      rw [List.getElem?_eq_getElem hlt] at hx
      rw [Option.some.inj hx]
    rw [hdr, rulesF] at hr
    repeat (first | refine aops_p tok rfl rfl rfl rfl ?_ | refine acode_seq ?_ | refine acode_region ?_ | refine acode_block ?_ | refine acode_skip ?_ | refine then_n ?_)
    refine aops_ix tok (ruC r) rfl rfl rfl rfl (by omega) (by omega) (by simp [ruC]) (encs_at (e := ruC) (s := 3) (fun _ => rfl) (i := (i : Int).toNat) (by simpa using hx)) rfl rfl rfl ?_
    repeat (refine aops_p tok rfl rfl rfl rfl ?_)
    refine aops_alloc tok rfl rfl rfl rfl rfl rfl fun b => ?_
    repeat (first | refine aops_end ?_ | refine aops_p tok rfl rfl rfl rfl ?_ | refine aops_ld tok 0 rfl rfl rfl rfl rfl rfl rfl rfl ?_ | refine aops_stn tok rfl rfl rfl rfl rfl rfl rfl rfl rfl ?_ | refine acode_seq ?_ | refine acode_region ?_)
    refine aops_drop0 ?_
    refine aops_callx Try.func97 rfl rfl rfl rfl (rule_calls (hg.rr r hm).1 (hg.rr r hm).2 _) rfl rfl rfl ?_
    repeat' (first | refine aops_end ?_ | refine aops_a tok rfl (by omega) (by omega) rfl rfl rfl ?_ | (refine aops_pn tok rfl rfl rfl rfl ?_ ?_ <;> intro e_) | refine aops_p tok rfl rfl rfl rfl ?_ | refine acode_it rfl ?_ | refine acode_if rfl ?_ | refine acode_seq ?_ | refine acode_region ?_ | refine acode_skip ?_ | refine then_n ?_ | refine block_n ?_)
    · rw [if_pos e_] at hr
      rw [← hr] at h1
      rw [h1]
      refine acode_ret ?_
      repeat (first | refine ret_then ?_ | refine ret_block ?_)
      exact ⟨_, ⟨rfl, rfl⟩, _, _, rfl, resOf_tmp rfl, resOf_tmp rfl⟩
    · rw [if_neg (by simp [e_])] at hr
      exact ⟨i + 1, ⟨by omega, by rw [← hr]; rfl⟩, by omega, ⟨rfl, rfl, rfl, rfl, trivial⟩, rfl⟩
  · have hge : i = g.rules.length := by omega
    subst hge
    rw [List.drop_length, rulesF] at hr
    rw [← hr] at h1
    simp only at h1
    refine acode_exit ?_
    repeat (first | refine exit_then ?_ | refine exit_here ?_ | refine then_n ?_)
    repeat (first | refine aops_p tok rfl rfl rfl rfl ?_ | refine acode_seq ?_ | refine acode_region ?_)
    refine aops_callx Try.func98 rfl rfl rfl rfl (cfF_calls (fun f => !decide (forbOk g f)) Try.func99 rfl (fun x _ M => formNot_calls M) hg.fo _) rfl rfl rfl ?_
    cases h2 : g.forbid.any (fun f => !decide (forbOk g f)) with
    | true =>
      rw [if_pos h2] at h1
      rw [h1]
      repeat' (first | refine aops_end ?_ | refine aops_p tok rfl rfl rfl rfl ?_ | refine acode_it rfl ?_ | refine acode_seq ?_ | refine acode_region ?_)
      refine acode_ret ?_
      repeat (refine ret_then ?_)
      exact ⟨_, ⟨rfl, rfl⟩, _, _, rfl, resOf_tmp rfl, resOf_tmp rfl⟩
    | false =>
      rw [if_neg (by simp [h2])] at h1
      rw [h1]
      repeat' (first | refine aops_end ?_ | refine aops_p tok rfl rfl rfl rfl ?_ | refine acode_if rfl ?_ | refine acode_seq ?_ | refine acode_region ?_ | refine acode_skip ?_ | refine then_n ?_)
      refine acode_ret ?_
      skip
      exact ⟨_, ⟨rfl, rfl⟩, _, _, rfl, resOf_tmp rfl, resOf_tmp rfl⟩
theorem good_calls {g : Gr} (hg : GrOk g) (M : List Ob) : ACalls Try.prog 48 [grA g] M (fun r M' => r = .bool (decide ((formF g).2 = 0)) ∧ M' = M) := by
  refine acalls_of_code 12 Try.func48 rfl rfl rfl ?_
  repeat (first | refine acode_seq ?_ | refine acode_region ?_)
  refine aops_boxf rfl rfl rfl rfl rfl rfl rfl ?_
  repeat (first | refine aops_end ?_ | refine aops_p tok rfl rfl rfl rfl ?_ | refine acode_seq ?_ | refine acode_region ?_)
  refine aops_callx Try.func81 rfl rfl rfl rfl (form_calls hg _) rfl rfl rfl ?_
  repeat' (first | refine aops_end ?_ | (refine aops_pd tok rfl rfl rfl rfl ?_ ?_ <;> intro e_) | refine aops_p tok rfl rfl rfl rfl ?_ | refine acode_seq ?_ | refine acode_region ?_)
  · refine acode_ret ?_
    skip
    exact ⟨.bool (decide ((formF g).2 = 0)), ⟨rfl, rfl⟩, resOf_tmp (bt e_)⟩
  · refine acode_ret ?_
    skip
    exact ⟨.bool (decide ((formF g).2 = 0)), ⟨rfl, rfl⟩, resOf_tmp (bf e_)⟩
end Go.Proofs.Ytbnhmioijeagiaa.Ab
/- Forests in plain terms: which nodes come to no ring, and what is told of a node out of its kids. No condition. -/
set_option linter.unusedVariables false
set_option linter.unusedSimpArgs false
namespace Go.Proofs.Ytbnhmioijeagiaa.Ab
structure Al where
  rule : Int
  kids : List Int
structure Nd where
  sym : Int
  fr : Int
  to : Int
  alts : List Al
structure Fo where
  nodes : List Nd
  root : Int
def alC (a : Al) : List A := [.int .i64 a.rule, .psl a.kids.length (ints a.kids)]
def ndC (n : Nd) : List A := [.int .i64 n.sym, .int .i64 n.fr, .int .i64 n.to, .psl n.alts.length (encs alC n.alts)]
def foC (f : Fo) : List A := [.psl f.nodes.length (encs ndC f.nodes), .int .i64 f.root]
def foA (f : Fo) : A := .agg (foC f)

def altsOf (f : Fo) (i : Nat) : List Al := (f.nodes[i]?.map (·.alts)).getD []
def Kid (f : Fo) (i : Nat) (k : Int) : Prop := ∃ a ∈ altsOf f i, k ∈ a.kids
/-- A node that comes to no ring and to no kid that is none. -/
inductive WF (f : Fo) : Nat → Prop
  | mk {i : Nat} (hi : i < f.nodes.length) (hk : ∀ k, Kid f i k → k < f.nodes.length) (hs : ∀ k : Nat, Kid f i k → WF f k) : WF f i
inductive Rch (f : Fo) : Nat → Nat → Prop
  | one {i k : Nat} (h : Kid f i k) : Rch f i k
  | cons {i j k : Nat} (h : Kid f i j) (t : Rch f j k) : Rch f i k
theorem WF.lt {f : Fo} {i : Nat} (h : WF f i) : i < f.nodes.length := by cases h; assumption
theorem WF.kid {f : Fo} {i k : Nat} (h : WF f i) (hk : Kid f i k) : WF f k := by cases h with | mk _ _ hs => exact hs k hk
theorem WF.small {f : Fo} {i : Nat} {k : Int} (h : WF f i) (hk : Kid f i k) : k < f.nodes.length := by cases h with | mk _ h2 _ => exact h2 k hk
theorem Rch.snoc {f : Fo} {i j k : Nat} (h : Rch f i j) (hk : Kid f j k) : Rch f i k := by
  induction h with
  | one h => exact .cons h (.one hk)
  | cons h _ ih => exact .cons h (ih hk)
theorem WF.noring {f : Fo} {i : Nat} (h : WF f i) : ¬ Rch f i i := by
  induction h with
  | mk hi hk hs ih =>
    intro r
    cases r with
    | one h => exact ih _ h (.one h)
    | cons h t => exact ih _ h (t.snoc h)
/-- That a kid of a node is below it. -/
def Bel (f : Fo) (k i : Nat) : Prop := WF f i ∧ Kid f i k
theorem WF.acc {f : Fo} {i : Nat} (h : WF f i) : Acc (Bel f) i := by
  induction h with
  | mk hi hk hs ih => exact ⟨_, fun k ⟨_, h⟩ => ih k h⟩
theorem bel_wf (f : Fo) : WellFounded (Bel f) := ⟨fun i => ⟨i, fun k ⟨h, hk⟩ => (h.kid hk).acc⟩⟩
/-- What is told of each node out of what is told of its kids. -/
theorem recT {α : Type} [Inhabited α] {f : Fo} (F : (Nat → α) → Nat → α) (hF : ∀ g h i, (∀ k : Nat, Kid f i k → g k = h k) → F g i = F h i) : ∃ T : Nat → α, ∀ i, WF f i → T i = F T i := by
  classical
  refine ⟨(bel_wf f).fix fun i rec => F (fun k => if h : Bel f k i then rec k h else default) i, fun i hi => ?_⟩
  rw [WellFounded.fix_eq]
  exact hF _ _ i fun k hk => by rw [dif_pos ⟨hi, hk⟩]
/-! ### an order in which each stands behind its kids -/
inductive Topo (f : Fo) : List Nat → Prop
  | nil : Topo f []
  | snoc {l : List Nat} {i : Nat} (h : Topo f l) (hi : i < f.nodes.length) (hn : i ∉ l) (hb : ∀ k, Kid f i k → k < f.nodes.length) (hk : ∀ k : Nat, Kid f i k → k ∈ l) : Topo f (l ++ [i])
theorem Topo.lt {f : Fo} {l : List Nat} (h : Topo f l) : ∀ i ∈ l, i < f.nodes.length := by
  induction h with
  | nil => simp
  | snoc h hi hn hb hk ih => intro j hj; simp only [List.mem_append, List.mem_singleton] at hj; rcases hj with hj | rfl; exact ih j hj; exact hi
theorem Topo.nodup {f : Fo} {l : List Nat} (h : Topo f l) : l.Nodup := by
  induction h with
  | nil => exact List.nodup_nil
  | snoc h hi hn hb hk ih => rw [List.nodup_append]; exact ⟨ih, by simp, fun a ha b hb e => by simp only [List.mem_singleton] at hb; subst hb; subst e; exact hn ha⟩
theorem Topo.wf {f : Fo} {l : List Nat} (h : Topo f l) : ∀ i ∈ l, WF f i := by
  induction h with
  | nil => simp
  | snoc h hi hn hb hk ih => intro j hj; simp only [List.mem_append, List.mem_singleton] at hj; rcases hj with hj | rfl; exact ih j hj; exact .mk hi hb fun k h => ih k (hk k h)
theorem Topo.len {f : Fo} {l : List Nat} (h : Topo f l) : l.length ≤ f.nodes.length := by
  have := List.Nodup.length_le_of_subset h.nodup (l₂ := List.range f.nodes.length) (fun i hi => by simpa using h.lt i hi)
  simpa using this
theorem Topo.pre {f : Fo} {l : List Nat} (h : Topo f l) : ∀ {a b : List Nat} {i : Nat}, l = a ++ i :: b → Topo f a ∧ i ∉ a ∧ ∀ k : Nat, Kid f i k → k ∈ a := by
  induction h with
  | nil => intro a b i e; simp at e
  | @snoc l j h hi hn hb hk ih =>
    intro a b i e
    rcases List.eq_nil_or_concat b with rfl | ⟨b', x, rfl⟩
    · have := List.append_inj' (s₁ := l) (t₁ := [j]) (s₂ := a) (t₂ := [i]) e rfl
      obtain ⟨rfl, e2⟩ := this
      cases e2
      exact ⟨h, hn, hk⟩
    · have := List.append_inj' (s₁ := l) (t₁ := [j]) (s₂ := a ++ i :: b') (t₂ := [x]) (by rw [e]; simp) rfl
      exact ih this.1
/-! ### how many trees -/
def great : Int := 4611686018427387903
def addN (a b : Int) : Int := if a > great - b then great else a + b
def mulN (a b : Int) : Int := if a = 0 ∨ b = 0 then 0 else if a > great / b then great else a * b
def isN (a : Int) : Prop := 0 ≤ a ∧ a ≤ great
theorem addN_is {a b : Int} (ha : isN a) (hb : isN b) : isN (addN a b) := by
  obtain ⟨a0, a1⟩ := ha; obtain ⟨b0, b1⟩ := hb
  unfold isN addN; split
  · exact ⟨by decide, by omega⟩
  · exact ⟨by omega, by omega⟩
theorem mul_le_of {a b : Int} (hb : 0 < b) (h : a ≤ great / b) : a * b ≤ great := by
  have := Int.ediv_mul_le great (b := b) (by omega)
  have h2 := Int.mul_le_mul_of_nonneg_right h (by omega : 0 ≤ b)
  omega
theorem mulN_is {a b : Int} (ha : isN a) (hb : isN b) : isN (mulN a b) := by
  obtain ⟨a0, a1⟩ := ha; obtain ⟨b0, b1⟩ := hb
  unfold isN mulN; split
  · exact ⟨by omega, by decide⟩
  · rename_i h
    split
    · exact ⟨by decide, by omega⟩
    · exact ⟨Int.mul_nonneg a0 b0, mul_le_of (by omega) (by omega)⟩
def altF (g : Nat → Int) (n0 : Int) (l : List Int) : Int := l.foldl (fun n k => if 0 ≤ k then mulN n (g k.toNat) else n) n0
def altsF (g : Nat → Int) (s0 : Int) (l : List Al) : Int := l.foldl (fun s a => addN s (altF g 1 a.kids)) s0
theorem altF_congr {g h : Nat → Int} : ∀ (l : List Int) (n0 : Int), (∀ k : Nat, (k : Int) ∈ l → g k = h k) → altF g n0 l = altF h n0 l
  | [], _, _ => rfl
  | k :: l, n0, hk => by
    have e : (if 0 ≤ k then mulN n0 (g k.toNat) else n0) = (if 0 ≤ k then mulN n0 (h k.toNat) else n0) := by
      split
      · rename_i h0; rw [hk k.toNat (by rw [Int.toNat_of_nonneg h0]; simp)]
      · rfl
    simp only [altF, List.foldl_cons, e]
    exact altF_congr l _ fun k hm => hk k (by simp [hm])
theorem altsF_congr {g h : Nat → Int} : ∀ (l : List Al) (s0 : Int), (∀ a ∈ l, ∀ k : Nat, (k : Int) ∈ a.kids → g k = h k) → altsF g s0 l = altsF h s0 l
  | [], _, _ => rfl
  | a :: l, s0, hk => by
    simp only [altsF, List.foldl_cons, altF_congr a.kids 1 (hk a (by simp))]
    exact altsF_congr l _ fun a hm => hk a (by simp [hm])
theorem altF_is {g : Nat → Int} : ∀ (l : List Int) (n0 : Int), isN n0 → (∀ k : Nat, (k : Int) ∈ l → isN (g k)) → isN (altF g n0 l)
  | [], _, h, _ => h
  | k :: l, n0, h, hk => by
    simp only [altF, List.foldl_cons]
    refine altF_is l _ ?_ fun k hm => hk k (by simp [hm])
    split
    · rename_i h0; exact mulN_is h (hk k.toNat (by rw [Int.toNat_of_nonneg h0]; simp))
    · exact h
theorem altsF_is {g : Nat → Int} : ∀ (l : List Al) (s0 : Int), isN s0 → (∀ a ∈ l, ∀ k : Nat, (k : Int) ∈ a.kids → isN (g k)) → isN (altsF g s0 l)
  | [], _, h, _ => h
  | a :: l, s0, h, hk => by
    simp only [altsF, List.foldl_cons]
    exact altsF_is l _ (addN_is h (altF_is _ _ ⟨by decide, by decide⟩ (hk a (by simp)))) fun a hm => hk a (by simp [hm])
theorem trees_ex (f : Fo) : ∃ T : Nat → Int, ∀ i, WF f i → T i = altsF T 0 (altsOf f i) :=
  recT (fun g i => altsF g 0 (altsOf f i)) fun g h i hk => altsF_congr _ _ fun a ha k hm => hk k ⟨a, ha, hm⟩
noncomputable def trees (f : Fo) : Nat → Int := Classical.choose (trees_ex f)
theorem trees_eq {f : Fo} {i : Nat} (h : WF f i) : trees f i = altsF (trees f) 0 (altsOf f i) := Classical.choose_spec (trees_ex f) i h
theorem trees_is {f : Fo} {i : Nat} (h : WF f i) : isN (trees f i) := by
  induction h with
  | @mk i hi hk hs ih => rw [trees_eq (.mk hi hk hs)]; exact altsF_is _ _ ⟨by decide, by decide⟩ fun a ha k hm => ih k ⟨a, ha, hm⟩
/-! ### how deep -/
def depK (g : Nat → Int) (d0 : Int) (l : List Int) : Int := l.foldl (fun d k => if 0 ≤ k then max d (g k.toNat) else d) d0
def depA (g : Nat → Int) (d0 : Int) (l : List Al) : Int := l.foldl (fun d a => depK g d a.kids) d0
theorem depK_congr {g h : Nat → Int} : ∀ (l : List Int) (n0 : Int), (∀ k : Nat, (k : Int) ∈ l → g k = h k) → depK g n0 l = depK h n0 l
  | [], _, _ => rfl
  | k :: l, n0, hk => by
    have e : (if 0 ≤ k then max n0 (g k.toNat) else n0) = (if 0 ≤ k then max n0 (h k.toNat) else n0) := by
      split
      · rename_i h0; rw [hk k.toNat (by rw [Int.toNat_of_nonneg h0]; simp)]
      · rfl
    simp only [depK, List.foldl_cons, e]
    exact depK_congr l _ fun k hm => hk k (by simp [hm])
theorem depA_congr {g h : Nat → Int} : ∀ (l : List Al) (s0 : Int), (∀ a ∈ l, ∀ k : Nat, (k : Int) ∈ a.kids → g k = h k) → depA g s0 l = depA h s0 l
  | [], _, _ => rfl
  | a :: l, s0, hk => by
    simp only [depA, List.foldl_cons, depK_congr a.kids s0 (hk a (by simp))]
    exact depA_congr l _ fun a hm => hk a (by simp [hm])
theorem depth_ex (f : Fo) : ∃ T : Nat → Int, ∀ i, WF f i → T i = depA T 0 (altsOf f i) + 1 :=
  recT (fun g i => depA g 0 (altsOf f i) + 1) fun g h i hk => by rw [depA_congr _ _ fun a ha k hm => hk k ⟨a, ha, hm⟩]
noncomputable def depth (f : Fo) : Nat → Int := Classical.choose (depth_ex f)
theorem depth_eq {f : Fo} {i : Nat} (h : WF f i) : depth f i = depA (depth f) 0 (altsOf f i) + 1 := Classical.choose_spec (depth_ex f) i h
theorem depK_b {g : Nat → Int} {m : Int} : ∀ (l : List Int) (d0 : Int), 0 ≤ d0 → d0 ≤ m → (∀ k : Nat, (k : Int) ∈ l → g k ≤ m) → 0 ≤ depK g d0 l ∧ depK g d0 l ≤ m
  | [], _, h0, h, _ => ⟨h0, h⟩
  | k :: l, d0, h0, h, hk => by
    simp only [depK, List.foldl_cons]
    refine depK_b l _ ?_ ?_ fun k hm => hk k (by simp [hm])
    · split <;> omega
    · split
      · rename_i hk0; have := hk k.toNat (by rw [Int.toNat_of_nonneg hk0]; simp); omega
      · exact h
theorem depA_b {g : Nat → Int} {m : Int} : ∀ (l : List Al) (d0 : Int), 0 ≤ d0 → d0 ≤ m → (∀ a ∈ l, ∀ k : Nat, (k : Int) ∈ a.kids → g k ≤ m) → 0 ≤ depA g d0 l ∧ depA g d0 l ≤ m
  | [], _, h0, h, _ => ⟨h0, h⟩
  | a :: l, d0, h0, h, hk => by
    simp only [depA, List.foldl_cons]
    have := depK_b a.kids d0 h0 h (hk a (by simp))
    exact depA_b l _ this.1 this.2 fun a hm => hk a (by simp [hm])
theorem Topo.depth {f : Fo} {l : List Nat} (h : Topo f l) : ∀ i ∈ l, 1 ≤ depth f i ∧ depth f i ≤ l.length := by
  induction h with
  | nil => simp
  | @snoc l j h hi hn hb hk ih =>
    intro i hm
    simp only [List.mem_append, List.mem_singleton] at hm
    rcases hm with hm | rfl
    · have := ih i hm; simp only [List.length_append, List.length_singleton]; omega
    · have hw : WF f i := .mk hi hb fun k hh => h.wf k (hk k hh)
      rw [depth_eq hw]
      have := depA_b (g := Ab.depth f) (m := l.length) (altsOf f i) 0 (by omega) (by omega) fun a ha k hm => (ih k (hk k ⟨a, ha, hm⟩)).2
      simp only [List.length_append, List.length_singleton]; omega
end Go.Proofs.Ytbnhmioijeagiaa.Ab
/- Forests as arguments. No condition. -/
set_option linter.unusedVariables false
set_option linter.unusedSimpArgs false
namespace Go.Proofs.Ytbnhmioijeagiaa.Ab
/-- How many Alts and kids there may be. -/
def FoOk (f : Fo) : Prop := f.nodes.length ≤ 2932031007402 ∧ ∀ n ∈ f.nodes, n.alts.length ≤ 4398046510976 ∧ ∀ a ∈ n.alts, a.kids.length ≤ 17592186043904
/-- The kids are numbers that an int holds. -/
def FoRng (f : Fo) : Prop := ∀ n ∈ f.nodes, ∀ a ∈ n.alts, ∀ k ∈ a.kids, rng k
end Go.Proofs.Ytbnhmioijeagiaa.Ab
/- Chapter 20's walk over the nodes of a forest: each behind its kids. No condition. -/
set_option linter.unusedVariables false
set_option linter.unusedSimpArgs false
namespace Go.Proofs.Ytbnhmioijeagiaa.Ab
attribute [local irreducible] thenA inBlockA ACode AOps put IntKind.wrap

theorem ndC_len (n : Nd) : (ndC n).length = 4 := rfl
theorem alC_len (a : Al) : (alC a).length = 2 := rfl
theorem nd_at {l : List Nd} {i : Nat} {x : Nd} (h : l[i]? = some x) : ndC x <+: (encs ndC l).drop (i * 4) := encs_at ndC_len h
theorem al_at {l : List Al} {i : Nat} {x : Al} (h : l[i]? = some x) : alC x <+: (encs alC l).drop (i * 2) := encs_at alC_len h
def nums (l : List Nat) : List Int := l.map Int.ofNat

/-- What is known of a walk: which are done, and in which order. -/
structure Wk0 (f : Fo) (st : List Int) (l : List Nat) : Prop where
  len : st.length = f.nodes.length
  topo : Topo f l
  don : ∀ j : Nat, st[j]? = some 2 ↔ j ∈ l
  val : ∀ (j : Nat) x, st[j]? = some x → x = 0 ∨ x = 1 ∨ x = 2
/-- What a walk from a node on leaves. -/
structure Lp (f : Fo) (st1 : List Int) (l0 : List Nat) (st : List Int) (l : List Nat) : Prop where
  w : Wk0 f st l
  one : ∀ j : Nat, st[j]? = some 1 ↔ st1[j]? = some 1
  sub : ∀ j ∈ l0, j ∈ l
  cnt : st.count 0 ≤ st1.count 0
theorem Lp.trans {f : Fo} {a b c : List Int} {l m n : List Nat} (h : Lp f a l b m) (h' : Lp f b m c n) : Lp f a l c n :=
  ⟨h'.w, fun j => (h'.one j).trans (h.one j), fun j hj => h'.sub j (h.sub j hj), Nat.le_trans h'.cnt h.cnt⟩
def Dn (f : Fo) (l : List Nat) (k : Int) : Prop := k < f.nodes.length ∧ ∀ k' : Nat, k = k' → k' ∈ l
theorem Dn.mono {f : Fo} {l m : List Nat} (h : ∀ j ∈ l, j ∈ m) {k : Int} (hk : Dn f l k) : Dn f m k := ⟨hk.1, fun k' e => h k' (hk.2 k' e)⟩
/-- All kids of the Alts ahead are done. -/
def Ahead (f : Fo) (l : List Nat) (ls : List Al) : Prop := ∀ a ∈ ls, ∀ k ∈ a.kids, Dn f l k
theorem Ahead.mono {f : Fo} {l m : List Nat} (h : ∀ j ∈ l, j ∈ m) {ls : List Al} (hk : Ahead f l ls) : Ahead f m ls := fun a ha k hm => (hk a ha k hm).mono h
theorem Ahead.add {f : Fo} {l : List Nat} {ls : List Al} {i : Nat} {a : Al} (hk : Ahead f l (ls.take i)) (ha : ls[i]? = some a) (h : ∀ k ∈ a.kids, Dn f l k) : Ahead f l (ls.take (i + 1)) := by
  intro b hb
  rw [List.take_add_one, ha] at hb
  simp only [Option.toList_some, List.mem_append, List.mem_singleton] at hb
  rcases hb with hb | rfl
  · exact hk b hb
  · exact h
theorem take_add_mem {α : Type} {l : List α} {i : Nat} {x y : α} (hx : l[i]? = some x) (h : y ∈ l.take (i + 1)) : y ∈ l.take i ∨ y = x := by
  rw [List.take_add_one, hx] at h
  simpa using h

theorem wk_open {f : Fo} {st : List Int} {l : List Nat} {i : Nat} (h : Wk0 f st l) (hi : i < f.nodes.length) (h0 : st[i]? = some 0) : Wk0 f (st.set i 1) l ∧ (st.set i 1).count 0 < st.count 0 ∧ (∀ j : Nat, (st.set i 1)[j]? = some 1 ↔ j = i ∨ st[j]? = some 1) := by
  have hlt : i < st.length := by rw [h.len]; exact hi
  have hget : ∀ j : Nat, (st.set i 1)[j]? = if i = j then some 1 else st[j]? := by
    intro j
    rw [List.getElem?_set]
    by_cases e : i = j
    · rw [if_pos e, if_pos e, if_pos hlt]
    · rw [if_neg e, if_neg e]
  refine ⟨⟨by simp [h.len], h.topo, fun j => ?_, fun j x hx => ?_⟩, ?_, fun j => ?_⟩
  · rw [hget, ← h.don]
    by_cases e : i = j
    · rw [if_pos e]; subst e; rw [h0]; simp
    · rw [if_neg e]
  · rw [hget] at hx
    by_cases e : i = j
    · rw [if_pos e] at hx; cases hx; exact .inr (.inl rfl)
    · rw [if_neg e] at hx; exact h.val j x hx
  · rw [List.count_set hlt]
    have e1 : st[i] = 0 := by rw [List.getElem?_eq_getElem hlt] at h0; exact Option.some.inj h0
    have e2 : 0 < st.count 0 := List.count_pos_iff.2 (e1 ▸ List.getElem_mem hlt)
    simp only [e1]
    simp
    omega
  · rw [hget]
    by_cases e : i = j
    · rw [if_pos e]; simp [e]
    · rw [if_neg e]
      constructor
      · exact .inr
      · rintro (h | h)
        · exact absurd h.symm e
        · exact h
theorem wk_close {f : Fo} {st0 st1 st : List Int} {l0 l : List Nat} {i : Nat} (hi : i < f.nodes.length) (h0 : st0[i]? = some 0) (hone : ∀ j : Nat, st1[j]? = some 1 ↔ j = i ∨ st0[j]? = some 1) (hcnt : st1.count 0 < st0.count 0) (h : Lp f st1 l0 st l) (hA : Ahead f l (altsOf f i)) :
    Lp f st0 l0 (st.set i 2) (l ++ [i]) := by
  have hlt : i < st.length := by rw [h.w.len]; exact hi
  have h1 : st[i]? = some 1 := (h.one i).2 ((hone i).2 (.inl rfl))
  have hget : ∀ j : Nat, (st.set i 2)[j]? = if i = j then some 2 else st[j]? := by
    intro j
    rw [List.getElem?_set]
    by_cases e : i = j
    · rw [if_pos e, if_pos e, if_pos hlt]
    · rw [if_neg e, if_neg e]
  refine ⟨⟨by simp [h.w.len], .snoc h.w.topo hi (fun hm => ?_) (fun k ⟨a, ha, hk⟩ => (hA a ha k hk).1) (fun k ⟨a, ha, hk⟩ => (hA a ha k hk).2 k rfl), fun j => ?_, fun j x hx => ?_⟩, fun j => ?_, fun j hj => by simp [h.sub j hj], ?_⟩
  · have := (h.w.don i).2 hm
    rw [h1] at this; cases this
  · rw [hget]
    by_cases e : i = j
    · rw [if_pos e]; simp [e]
    · rw [if_neg e, h.w.don j]; simp; intro h; exact absurd h.symm e
  · rw [hget] at hx
    by_cases e : i = j
    · rw [if_pos e] at hx; cases hx; exact .inr (.inr rfl)
    · rw [if_neg e] at hx; exact h.w.val j x hx
  · rw [hget]
    by_cases e : i = j
    · rw [if_pos e]; subst e; rw [h0]; simp
    · rw [if_neg e, h.one j, hone j]
      constructor
      · rintro (h | h)
        · exact absurd h.symm e
        · exact h
      · exact .inr
  · have := h.cnt
    rw [List.count_set hlt]
    have e1 : st[i] = 1 := by rw [List.getElem?_eq_getElem hlt] at h1; exact Option.some.inj h1
    simp only [e1]
    simp
    omega

abbrev wkM (f : Fo) (b bs : Nat) (ob : Option Nat) (cap : Nat) (st : List Int) (l : List Nat) (M : List Ob) : List Ob :=
  ⟨some b, 4, [.psl f.nodes.length (encs ndC f.nodes), .int .i64 f.root, .own (some bs) f.nodes.length f.nodes.length, .own ob l.length cap]⟩ :: ⟨some bs, f.nodes.length * 1, ints st⟩ :: ⟨ob, cap * 1, ints (nums l)⟩ :: M

theorem nodes_at {f : Fo} {i : Nat} (hi : i < f.nodes.length) : ∃ n, f.nodes[i]? = some n ∧ n ∈ f.nodes ∧ altsOf f i = n.alts := by
  refine ⟨f.nodes[i], List.getElem?_eq_getElem hi, List.getElem_mem hi, ?_⟩
  simp [altsOf, List.getElem?_eq_getElem hi]
theorem nums_app (l m : List Nat) : nums (l ++ m) = nums l ++ nums m := by simp [nums]
theorem nums_len (l : List Nat) : (nums l).length = l.length := by simp [nums]
set_option maxHeartbeats 4000000 in
theorem node_calls {f : Fo} (hf : FoOk f) (b bs : Nat) (M : List Ob) : ∀ (m : Nat) (st : List Int) (l : List Nat) (ob : Option Nat) (cap i : Nat), st.count 0 < m → Wk0 f st l → (∀ o : Nat, st[o]? = some 1 → Rch f o i) → i < f.nodes.length →
    ACalls Try.prog 80 [.ref b 0, .int .i64 i] (wkM f b bs ob cap st l M) (fun r M' => (r = .bool true ∧ WF f i ∧ ∃ st' l' ob' cap', M' = wkM f b bs ob' cap' st' l' M ∧ Lp f st l st' l' ∧ i ∈ l') ∨ (r = .bool false ∧ ¬ WF f i ∧ ∃ o1 o2 o3, M' = o1 :: o2 :: o3 :: M)) := by
  intro m
  induction m with
  | zero => intro st l ob cap i hm; omega
  | succ m ih =>
    intro st l ob cap i hm hw hopen hi
    obtain ⟨hf1, hf2⟩ := hf
    have hlt : i < st.length := by rw [hw.len]; exact hi
    obtain ⟨s, hs⟩ : ∃ s, st[i]? = some s := ⟨st[i], List.getElem?_eq_getElem hlt⟩
    have hsA : (ints st)[i * 1]? = some (A.int .i64 s) := by rw [Nat.mul_one]; exact ints_get hs
    refine acalls_of_code 88 Try.func80 rfl rfl rfl ?_
    repeat (first | refine aops_end ?_ | refine aops_p tok rfl rfl rfl rfl ?_ | refine aops_ld tok 0 rfl rfl rfl rfl rfl rfl rfl rfl ?_ | refine acode_seq ?_ | refine acode_region ?_)
    refine aops_ixo tok rfl rfl rfl rfl (by omega) (by omega) rfl rfl rfl ?_
    refine aops_ld tok 1 (y := .int .i64 s) rfl rfl rfl rfl (by rw [headed_eq]; exact hsA) rfl rfl rfl ?_
    repeat' (first | refine aops_end ?_ | (refine aops_pn tok rfl rfl rfl rfl ?_ ?_ <;> intro e_) | refine aops_p tok rfl rfl rfl rfl ?_ | refine acode_it rfl ?_ | refine acode_if rfl ?_ | refine aops_ld tok 0 rfl rfl rfl rfl rfl rfl rfl rfl ?_ | refine acode_seq ?_ | refine acode_region ?_ | refine acode_skip ?_ | refine then_n ?_)
    · -- seen
      refine aops_ixo tok rfl rfl rfl rfl (by omega) (by omega) rfl rfl rfl ?_
      refine aops_ld tok 1 (y := .int .i64 s) rfl rfl rfl rfl (by rw [headed_eq]; exact hsA) rfl rfl rfl ?_
      have hne := e_
      repeat' (first | refine aops_end ?_ | (refine aops_pd tok rfl rfl rfl rfl ?_ ?_ <;> intro e_) | refine aops_p tok rfl rfl rfl rfl ?_)
      · subst e_
        refine acode_ret ?_
        repeat (refine ret_then ?_)
        have hmem := (hw.don i).1 hs
        exact ⟨.bool true, .inl ⟨rfl, hw.topo.wf i hmem, st, l, ob, cap, rfl, ⟨hw, fun _ => Iff.rfl, fun _ h => h, Nat.le_refl _⟩, hmem⟩, resOf_tmp rfl⟩
      · refine acode_ret ?_
        repeat (refine ret_then ?_)
        have h1 : st[i]? = some 1 := by rcases hw.val i s hs with rfl | rfl | rfl; exact absurd rfl hne; exact hs; exact absurd rfl e_
        exact ⟨.bool false, .inr ⟨rfl, fun hwf => hwf.noring (hopen i h1), _, _, _, rfl⟩, resOf_tmp rfl⟩
    · subst e_
      obtain ⟨hw1, hc1, hone1⟩ := wk_open hw hi hs
      obtain ⟨nd, hnd, hndm, hal⟩ := nodes_at hi
      obtain ⟨hal1, hal2⟩ := hf2 nd hndm
      skip
      refine aops_ixo tok rfl rfl rfl rfl (by omega) (by omega) rfl rfl rfl ?_
      refine aops_stk tok 1 (ints (st.set i 1)) (wkM f b bs ob cap (st.set i 1) l M) rfl rfl rfl rfl rfl rfl (by rw [ints_len]; show i * 1 + 1 ≤ _; omega) (ints_set1 hlt 1) rfl rfl rfl ?_
      have hL0 : Lp f (st.set i 1) l (st.set i 1) l := ⟨hw1, fun _ => Iff.rfl, fun _ h => h, Nat.le_refl _⟩
      generalize st.set i 1 = st1 at *
      repeat (first | refine aops_end ?_ | refine aops_p tok rfl rfl rfl rfl ?_ | refine aops_ld tok 0 rfl rfl rfl rfl rfl rfl rfl rfl ?_ | refine acode_seq ?_ | refine acode_region ?_)
      refine aops_ix tok (ndC nd) rfl rfl rfl rfl (by omega) (by omega) (by simp [ndC]) (nd_at hnd) rfl rfl rfl ?_
      repeat (first | refine aops_end ?_ | refine aops_p tok rfl rfl rfl rfl ?_ | refine acode_block ?_)
      refine acode_loopS (ι := Nat × List Int × List Nat × Option Nat × Nat) (fun p => [(0, .ref b 0), (1, .int .i64 i), (39, .psl nd.alts.length (encs alC nd.alts)), (40, .int .i64 nd.alts.length), (41, .int .i64 p.1)]) (fun p => wkM f b bs p.2.2.2.1 p.2.2.2.2 p.2.1 p.2.2.1 M) (fun p => nd.alts.length - p.1) (fun p => p.1 ≤ nd.alts.length ∧ Lp f st1 l p.2.1 p.2.2.1 ∧ Ahead f p.2.2.1 (nd.alts.take p.1)) (0, st1, l, ob, cap) ⟨Nat.zero_le _, hL0, by simp [Ahead]⟩ ⟨rfl, rfl, rfl, rfl, rfl, trivial⟩ rfl ?_
      rintro ⟨ai, st2, l2, ob2, cap2⟩ ⟨hai, hL2, hA2⟩
      simp only at hai hL2 hA2 ⊢
      repeat (first | refine aops_end ?_ | refine aops_p tok rfl rfl rfl rfl ?_ | refine acode_seq ?_ | refine acode_region ?_)
      refine acode_id rfl (fun e => ?_) (fun e => ?_)
      · have hail : ai < nd.alts.length := by omega
        obtain ⟨a, ha⟩ : ∃ a, nd.alts[ai]? = some a := ⟨nd.alts[ai], List.getElem?_eq_getElem hail⟩
        have ham := List.mem_of_getElem? ha
        have hkl := hal2 a ham
        repeat (first | refine acode_seq ?_ | refine acode_region ?_ | refine acode_block ?_ | refine acode_skip ?_ | refine then_n ?_)
        refine aops_ix tok (alC a) rfl rfl rfl rfl (by omega) (by omega) (by simp [alC]) (al_at ha) rfl rfl rfl ?_
        repeat (refine aops_p tok rfl rfl rfl rfl ?_)
        refine aops_alloc tok rfl rfl rfl rfl rfl rfl fun ba => ?_
        refine aops_stn tok rfl rfl rfl rfl rfl rfl rfl rfl rfl ?_
        refine aops_pubref0 6 rfl ?_
        repeat (first | refine aops_end ?_ | refine aops_p tok rfl rfl rfl rfl ?_ | refine acode_seq ?_ | refine acode_region ?_ | refine acode_block ?_)
        refine acode_loopS (ι := Nat × List Int × List Nat × Option Nat × Nat) (fun p => [(0, .ref b 0), (1, .int .i64 i), (39, .psl nd.alts.length (encs alC nd.alts)), (40, .int .i64 nd.alts.length), (41, .int .i64 ai), (46, .psl a.kids.length (ints a.kids)), (47, .int .i64 a.kids.length), (48, .int .i64 p.1)]) (fun p => wkM f b bs p.2.2.2.1 p.2.2.2.2 p.2.1 p.2.2.1 M) (fun p => a.kids.length - p.1) (fun p => p.1 ≤ a.kids.length ∧ Lp f st1 l p.2.1 p.2.2.1 ∧ Ahead f p.2.2.1 (nd.alts.take ai) ∧ ∀ k ∈ a.kids.take p.1, Dn f p.2.2.1 k) (0, st2, l2, ob2, cap2) ⟨Nat.zero_le _, hL2, hA2, by simp⟩ ⟨rfl, rfl, rfl, rfl, rfl, rfl, rfl, rfl, trivial⟩ rfl ?_
        clear hL2 hA2 st2 l2 ob2 cap2
        rintro ⟨ki, st2, l2, ob2, cap2⟩ ⟨hki, hL2, hA2, hK2⟩
        simp only at hki hL2 hA2 hK2 ⊢
        repeat (first | refine aops_end ?_ | refine aops_p tok rfl rfl rfl rfl ?_ | refine acode_seq ?_ | refine acode_region ?_)
        refine acode_id rfl (fun e2 => ?_) (fun e2 => ?_)
        · have hkil : ki < a.kids.length := by omega
          obtain ⟨k, hk⟩ : ∃ k, a.kids[ki]? = some k := ⟨a.kids[ki], List.getElem?_eq_getElem hkil⟩
          have hkid : Kid f i k := ⟨a, by rw [hal]; exact ham, List.mem_of_getElem? hk⟩
          repeat (first | refine acode_seq ?_ | refine acode_region ?_ | refine acode_block ?_ | refine acode_skip ?_ | refine then_n ?_)
          refine aops_ix tok [A.int .i64 k] rfl rfl rfl rfl (by omega) (by omega) (by simp) (ints_at (j := ki) (by simpa using hk)) rfl rfl rfl ?_
          repeat' (first | refine aops_end ?_ | refine aops_o rfl rfl rfl ?_ | refine aops_a tok rfl (by omega) (by omega) rfl rfl rfl ?_ | (refine aops_pd tok rfl rfl rfl rfl ?_ ?_ <;> intro e_) | refine aops_p tok rfl rfl rfl rfl ?_ | refine acode_it rfl ?_ | refine acode_if rfl ?_ | refine aops_ld tok 0 rfl rfl rfl rfl rfl rfl rfl rfl ?_ | refine acode_seq ?_ | refine acode_region ?_ | refine acode_skip ?_ | refine then_n ?_ | refine block_n ?_)
          · -- no node
            refine acode_ret ?_
            repeat (first | refine ret_then ?_ | refine ret_block ?_)
            exact ⟨.bool false, .inr ⟨rfl, fun hwf => by have := hwf.small hkid; omega, _, _, _, rfl⟩, resOf_tmp rfl⟩
          · -- one
            obtain ⟨k', rfl⟩ : ∃ k' : Nat, k = k' := ⟨k.toNat, by omega⟩
            have hkn : k' < f.nodes.length := by omega
            refine aops_call Try.func80 rfl rfl rfl rfl (ih st2 l2 ob2 cap2 k' (by have := hL2.cnt; omega) hL2.w (fun o ho => ?_) hkn) rfl rfl ?_
            · rcases (hone1 o).1 ((hL2.one o).1 ho) with rfl | h
              · exact .one hkid
              · exact (hopen o h).snoc hkid
            · rintro x M' (⟨rfl, hwf, st3, l3, ob3, cap3, rfl, hL3, hm3⟩ | ⟨rfl, hwf, o1, o2, o3, rfl⟩)
              · repeat' (first | refine aops_put rfl ?_ | refine aops_end ?_ | refine aops_a tok rfl (by omega) (by omega) rfl rfl rfl ?_ | refine aops_p tok rfl rfl rfl rfl ?_ | refine acode_if rfl ?_ | refine acode_region ?_ | refine acode_skip ?_ | refine then_n ?_ | refine block_n ?_)
                refine ⟨(ki + 1, st3, l3, ob3, cap3), ⟨by simp; omega, hL2.trans hL3, hA2.mono hL3.sub, fun k hkm => ?_⟩, by simp; omega, ⟨rfl, rfl, rfl, rfl, rfl, rfl, rfl, rfl, trivial⟩, rfl⟩
                rcases take_add_mem hk hkm with hkm | rfl
                · exact (hK2 k hkm).mono hL3.sub
                · exact ⟨by omega, fun k2 e => by rw [← Int.ofNat_inj.1 e]; exact hm3⟩
              · repeat' (first | refine aops_put rfl ?_ | refine aops_end ?_ | refine aops_p tok rfl rfl rfl rfl ?_ | refine acode_it rfl ?_ | refine acode_seq ?_ | refine acode_region ?_)
                refine acode_ret ?_
                repeat (first | refine ret_then ?_ | refine ret_block ?_)
                exact ⟨.bool false, .inr ⟨rfl, fun h => hwf (h.kid hkid), _, _, _, rfl⟩, resOf_tmp rfl⟩
          · -- a token
            refine ⟨(ki + 1, st2, l2, ob2, cap2), ⟨by simp; omega, hL2, hA2, fun k2 hkm => ?_⟩, by simp; omega, ⟨rfl, rfl, rfl, rfl, rfl, rfl, rfl, rfl, trivial⟩, rfl⟩
            rcases take_add_mem hk hkm with hkm | rfl
            · exact hK2 k2 hkm
            · exact ⟨by omega, fun k3 e => by omega⟩
        · have hge : ki = a.kids.length := by omega
          subst hge
          rw [List.take_length] at hK2
          refine acode_exit ?_
          repeat (first | refine exit_then ?_ | refine exit_here ?_ | refine then_n ?_ | refine block_n ?_)
          repeat (first | refine aops_end ?_ | refine aops_a tok rfl (by omega) (by omega) rfl rfl rfl ?_ | refine aops_p tok rfl rfl rfl rfl ?_ | refine acode_region ?_)
          exact ⟨(ai + 1, st2, l2, ob2, cap2), ⟨by simp; omega, hL2, hA2.add ha hK2⟩, by simp; omega, ⟨rfl, rfl, rfl, rfl, rfl, trivial⟩, rfl⟩
      · have hge : ai = nd.alts.length := by omega
        subst hge
        rw [List.take_length, ← hal] at hA2
        have hlt2 : i < st2.length := by rw [hL2.w.len]; exact hi
        have hfin := wk_close hi hs hone1 hc1 hL2 hA2
        have hlen := hfin.w.topo.len
        simp only [List.length_append, List.length_singleton] at hlen
        refine acode_exit ?_
        repeat (first | refine exit_then ?_ | refine exit_here ?_ | refine then_n ?_)
        repeat (first | refine aops_p tok rfl rfl rfl rfl ?_ | refine aops_ld tok 0 rfl rfl rfl rfl rfl rfl rfl rfl ?_ | refine acode_seq ?_ | refine acode_region ?_)
        refine aops_ixo tok rfl rfl rfl rfl (by omega) (by omega) rfl rfl rfl ?_
        refine aops_stk tok 1 (ints (st2.set i 2)) (wkM f b bs ob2 cap2 (st2.set i 2) l2 M) rfl rfl rfl rfl rfl rfl (by rw [ints_len]; show i * 1 + 1 ≤ _; omega) (ints_set1 hlt2 2) rfl rfl rfl ?_
        repeat (first | refine aops_end ?_ | refine aops_p tok rfl rfl rfl rfl ?_ | refine aops_ld tok 0 rfl rfl rfl rfl rfl rfl rfl rfl ?_ | refine acode_seq ?_ | refine acode_region ?_)
        refine aops_litf tok rfl rfl rfl rfl rfl rfl rfl ?_
        refine aops_append tok 2 (m := 1) (ds := ints (nums [i])) rfl rfl rfl (.inl rfl) rfl rfl (by rw [ints_len, nums_len]; exact (Nat.mul_one _).symm) rfl rfl rfl (by show _ * 8 ≤ _; omega) (by omega) rfl rfl fun ob3 cap3 => ?_
        repeat (first | refine aops_put rfl ?_ | refine aops_end ?_ | refine aops_p tok rfl rfl rfl rfl ?_ | refine aops_stn tok rfl rfl rfl rfl rfl rfl rfl rfl rfl ?_ | refine acode_seq ?_ | refine acode_region ?_)
        refine acode_ret ?_
        skip
        refine ⟨.bool true, .inl ⟨rfl, hfin.w.topo.wf i (by simp), st2.set i 2, l2 ++ [i], ob3, cap3, ?_, hfin, by simp⟩, resOf_tmp rfl⟩
        simp only [wkM, nums_app, ints_app, List.length_append, List.length_singleton]
        rfl
end Go.Proofs.Ytbnhmioijeagiaa.Ab
/- (as far as count.Order) Chapter 20's functions: the walk. No condition. -/
set_option linter.unusedVariables false
set_option linter.unusedSimpArgs false
namespace Go.Proofs.Ytbnhmioijeagiaa.Ab
attribute [local irreducible] thenA inBlockA ACode AOps put IntKind.wrap

/-- A forest. -/
def FForm (f : Fo) : Prop := (0 ≤ f.root ∧ f.root < f.nodes.length) ∧ ∀ i, i < f.nodes.length → WF f i
theorem count_zeros (n : Nat) (x : Int) (j : Nat) : (List.replicate n (0 : Int))[j]? = some x → x = 0 := by
  intro h
  rw [List.getElem?_replicate] at h
  split at h
  · exact (Option.some.inj h).symm
  · cases h
theorem wk0_init (f : Fo) : Wk0 f (List.replicate f.nodes.length 0) [] :=
  ⟨by simp, .nil, fun j => ⟨fun h => by have := count_zeros _ _ _ h; omega, fun h => by simp at h⟩, fun j x h => .inl (count_zeros _ _ _ h)⟩

set_option maxHeartbeats 2000000 in
theorem order_calls {f : Fo} (hf : FoOk f) (M : List Ob) : ACalls Try.prog 47 [foA f] M (fun r M' => M' = M ∧ ((FForm f ∧ ∃ l, r = .tup [.psl l.length (ints (nums l)), .bool true] ∧ Topo f l ∧ ∀ i, i < f.nodes.length → i ∈ l) ∨ (¬ FForm f ∧ r = .tup [.nils, .bool false]))) := by
  obtain ⟨hf1, hf2⟩ := id hf
  refine acalls_of_code 39 Try.func47 rfl rfl rfl ?_
  repeat (first | refine acode_seq ?_ | refine acode_region ?_)
  refine aops_boxf rfl rfl rfl rfl rfl rfl rfl ?_
  repeat (first | refine aops_end ?_ | refine aops_p tok rfl rfl rfl rfl ?_ | refine acode_seq ?_)
  refine acode_drawP [] 7 [0, 1, 2, 3, 4, 5, 6] [4, 6] mixed (by kernel_rfl) (by kernel_rfl) rfl ?_
  repeat (refine seqO_p tok rfl rfl rfl rfl rfl ?_)
  refine seqO_mk tok f.nodes.length rfl rfl rfl rfl rfl rfl rfl (by show _ * 8 ≤ _; omega) (by omega) (by simp) rfl rfl rfl fun bs => ?_
  repeat (refine seqO_p tok rfl rfl rfl rfl rfl ?_)
  refine seqO_boxo rfl rfl rfl rfl (by simp) rfl rfl rfl rfl fun b => ?_
  refine SeqO.done ?_
  refine aops_adoptF 3 rfl rfl ?_
  repeat (refine aops_p tok rfl rfl rfl rfl ?_)
  refine aops_end ?_
  refine acode_swap1 ?_
  refine acode_M (M' := wkM f b bs none 0 (List.replicate f.nodes.length 0) [] M) (by simp only [wkM]; rw [← ints_zeros]; rfl) ?_
  have hw0 := wk0_init f
  have hno : ∀ o : Nat, (List.replicate f.nodes.length (0 : Int))[o]? ≠ some 1 := fun o h => by have := count_zeros _ _ _ h; omega
  generalize List.replicate f.nodes.length (0 : Int) = st at *
  repeat' (first | refine aops_end ?_ | refine aops_o rfl rfl rfl ?_ | (refine aops_pd tok rfl rfl rfl rfl ?_ ?_ <;> intro e_) | refine aops_p tok rfl rfl rfl rfl ?_ | refine acode_it rfl ?_ | refine acode_if rfl ?_ | refine acode_seq ?_ | refine acode_region ?_ | refine acode_block ?_ | refine acode_skip ?_ | refine then_n ?_)
  · refine acode_drop0 (acode_drop0 (acode_drop0 (acode_ret ?_)))
    repeat (refine ret_then ?_)
    exact ⟨_, ⟨rfl, .inr ⟨fun h => by have := h.1; omega, rfl⟩⟩, _, _, rfl, resOf_tmp rfl, resOf_tmp rfl⟩
  · refine acode_drop0 (acode_drop0 (acode_drop0 (acode_ret ?_)))
    repeat (refine ret_then ?_)
    exact ⟨_, ⟨rfl, .inr ⟨fun h => by have := h.1; omega, rfl⟩⟩, _, _, rfl, resOf_tmp rfl, resOf_tmp rfl⟩
  · refine acode_loopS (ι := Nat × List Int × List Nat × Option Nat × Nat) (fun p => [(4, .ref b 0), (26, .int .i64 f.nodes.length), (27, .int .i64 p.1)]) (fun p => wkM f b bs p.2.2.2.1 p.2.2.2.2 p.2.1 p.2.2.1 M) (fun p => f.nodes.length - p.1) (fun p => p.1 ≤ f.nodes.length ∧ Wk0 f p.2.1 p.2.2.1 ∧ (∀ o : Nat, p.2.1[o]? ≠ some 1) ∧ ∀ j, j < p.1 → j ∈ p.2.2.1) (0, st, [], none, 0) ⟨Nat.zero_le _, hw0, fun o h => ?_, fun j hj => by omega⟩ ⟨rfl, rfl, rfl, trivial⟩ rfl ?_
    · exact hno o h
    rintro ⟨i, st1, l, ob, cap⟩ ⟨hi, hw, hone, hdone⟩
    simp only at hi hw hone hdone ⊢
    repeat (first | refine aops_end ?_ | refine aops_p tok rfl rfl rfl rfl ?_ | refine acode_seq ?_ | refine acode_region ?_)
    refine acode_id rfl (fun e => ?_) (fun e => ?_)
    · have hil : i < f.nodes.length := by omega
      repeat (first | refine aops_end ?_ | refine aops_p tok rfl rfl rfl rfl ?_ | refine acode_seq ?_ | refine acode_region ?_ | refine acode_block ?_ | refine acode_skip ?_ | refine then_n ?_)
      refine aops_call Try.func80 rfl rfl rfl rfl (node_calls hf b bs M (st1.count 0 + 1) st1 l ob cap i (by omega) hw (fun o h => absurd h (hone o)) hil) rfl rfl ?_
      rintro x M' (⟨rfl, hwf, st2, l2, ob2, cap2, rfl, hL, hm⟩ | ⟨rfl, hwf, o1, o2, o3, rfl⟩)
      · repeat' (first | refine aops_put rfl ?_ | refine aops_end ?_ | refine aops_a tok rfl (by omega) (by omega) rfl rfl rfl ?_ | refine aops_p tok rfl rfl rfl rfl ?_ | refine acode_if rfl ?_ | refine acode_region ?_ | refine acode_skip ?_ | refine then_n ?_ | refine block_n ?_)
        refine ⟨(i + 1, st2, l2, ob2, cap2), ⟨by simp; omega, hL.w, fun o h => hone o ((hL.one o).1 h), fun j hj => ?_⟩, by simp; omega, ⟨rfl, rfl, rfl, trivial⟩, rfl⟩
        by_cases h : j = i
        · subst h; exact hm
        · exact hL.sub j (hdone j (by simp at hj; omega))
      · repeat' (first | refine aops_put rfl ?_ | refine aops_end ?_ | refine aops_p tok rfl rfl rfl rfl ?_ | refine acode_it rfl ?_ | refine acode_seq ?_ | refine acode_region ?_)
        refine acode_drop0 (acode_drop0 (acode_drop0 (acode_ret ?_)))
        repeat (first | refine ret_then ?_ | refine ret_block ?_)
        exact ⟨_, ⟨rfl, .inr ⟨fun h => hwf (h.2 i hil), rfl⟩⟩, _, _, rfl, resOf_tmp rfl, resOf_tmp rfl⟩
    · have hge : i = f.nodes.length := by omega
      subst hge
      refine acode_exit ?_
      repeat (first | refine exit_then ?_ | refine exit_here ?_ | refine then_n ?_)
      repeat (first | refine aops_end ?_ | refine aops_p tok rfl rfl rfl rfl ?_ | refine aops_ld tok 0 rfl rfl rfl rfl rfl rfl rfl rfl ?_ | refine acode_seq ?_ | refine acode_region ?_)
      refine acode_publish 2 2 1 rfl rfl rfl (by rw [ints_len, nums_len, Nat.mul_one]) (by decide) ?_
      refine acode_drop0 (acode_drop0 (acode_ret ?_))
      skip
      exact ⟨_, ⟨rfl, .inl ⟨⟨⟨by omega, by omega⟩, fun i hi => hw.topo.wf i (hdone i hi)⟩, l, rfl, hw.topo, hdone⟩⟩, _, _, rfl, resOf_tmp rfl, resOf_tmp rfl⟩
theorem altsF_add (g : Nat → Int) {ls : List Al} {i : Nat} {a : Al} (h : ls[i]? = some a) : altsF g 0 (ls.take (i + 1)) = addN (altsF g 0 (ls.take i)) (altF g 1 a.kids) := by
  rw [List.take_add_one, h]; simp [altsF, List.foldl_append]
end Go.Proofs.Ytbnhmioijeagiaa.Ab
/- Package choose: whether a forest is a grammar's, the weight of a rule: the walk. No condition. -/
set_option linter.unusedVariables false
set_option linter.unusedSimpArgs false
namespace Go.Proofs.Ytbnhmioijeagiaa.Ab
attribute [local irreducible] thenA inBlockA ACode AOps put IntKind.wrap

theorem ixN_calls {l : List Nd} {f : Nat} {cap : List A} {fn : Func} (p : Nd → Bool) (hf : Try.prog.funcs[f]? = some fn) (hfn : callable fn = true) (hp : ∀ x ∈ l, ∀ M, ACalls Try.prog f ([.agg (ndC x)] ++ cap) M (fun r M' => r = .bool (p x) ∧ M' = M)) (hl : l.length ≤ 9223372036854775807) (M : List Ob) :
    ACalls Try.prog 101 [.psl l.length (encs ndC l), .fn f cap] M (fun r M' => (∃ k : Int, r = .int .i64 k ∧ decide (0 ≤ k) = l.any p) ∧ M' = M) := by
  refine acalls_of_code 19 Try.func101 rfl rfl rfl ?_
  repeat (first | refine aops_end ?_ | refine aops_p tok rfl rfl rfl rfl ?_ | refine acode_seq ?_ | refine acode_region ?_ | refine acode_block ?_)
  refine acode_loopS (ι := Nat) (fun i => [(0, .psl l.length (encs ndC l)), (1, .fn f cap), (7, .int .i64 l.length), (8, .int .i64 i)]) (fun _ => M) (fun i => l.length - i) (fun i => i ≤ l.length ∧ (l.take i).any p = false) 0 ⟨Nat.zero_le _, by simp⟩ ⟨rfl, rfl, rfl, rfl, trivial⟩ rfl ?_
  rintro i ⟨hi, hn⟩
  repeat (first | refine aops_end ?_ | refine aops_p tok rfl rfl rfl rfl ?_ | refine acode_seq ?_ | refine acode_region ?_)
  refine acode_id rfl (fun e => ?_) (fun e => ?_)
  · have hlt : i < l.length := by omega
    obtain ⟨x, hx⟩ : ∃ x, l[i]? = some x := ⟨l[i], List.getElem?_eq_getElem hlt⟩
    repeat (first | refine aops_end ?_ | refine aops_p tok rfl rfl rfl rfl ?_ | refine acode_seq ?_ | refine acode_region ?_ | refine acode_block ?_ | refine acode_skip ?_ | refine then_n ?_)
    refine aops_index tok (ndC x) rfl rfl rfl rfl (by omega) (by omega) (by simp [ndC]) (encs_at (e := ndC) (s := 4) (fun _ => rfl) (i := (i : Int).toNat) (by simpa using hx)) rfl rfl ?_
    repeat (first | refine aops_put rfl ?_ | refine aops_p tok rfl rfl rfl rfl ?_)
    refine aops_callx hf rfl rfl hfn rfl (hp x (List.mem_of_getElem? hx) _) rfl rfl rfl ?_
    refine aops_end ?_
    refine acode_cond rfl (fun e => ?_) (fun e => ?_)
    · repeat (first | refine aops_end ?_ | refine aops_p tok rfl rfl rfl rfl ?_ | refine acode_seq ?_ | refine acode_region ?_)
      refine acode_ret ?_
      repeat (first | refine ret_then ?_ | refine ret_block ?_)
      refine ⟨_, ⟨⟨_, rfl, ?_⟩, rfl⟩, resOf_tmp rfl⟩
      have : l.any p = true := List.any_eq_true.2 ⟨x, List.mem_of_getElem? hx, e⟩
      rw [this]; simp
    · repeat (first | refine aops_end ?_ | refine aops_a tok rfl (by omega) (by omega) rfl rfl rfl ?_ | refine aops_p tok rfl rfl rfl rfl ?_ | refine acode_region ?_ | refine acode_skip ?_ | refine then_n ?_ | refine block_n ?_)
      refine ⟨i + 1, ⟨by omega, ?_⟩, by omega, ⟨rfl, rfl, rfl, rfl, trivial⟩, rfl⟩
      rw [List.take_add_one, hx]
      simp [hn, e]
  · have hge : i = l.length := by omega
    subst hge
    refine acode_exit ?_
    repeat (first | refine exit_then ?_ | refine exit_here ?_ | refine then_n ?_)
    repeat (first | refine aops_end ?_ | refine aops_p tok rfl rfl rfl rfl ?_ | refine acode_seq ?_ | refine acode_region ?_)
    refine acode_ret ?_
    skip
    refine ⟨_, ⟨⟨_, rfl, ?_⟩, rfl⟩, resOf_tmp rfl⟩
    rw [List.take_length] at hn
    rw [hn]; rfl
theorem cfN_calls {l : List Nd} {f : Nat} {cap : List A} {fn : Func} (p : Nd → Bool) (hf : Try.prog.funcs[f]? = some fn) (hfn : callable fn = true) (hp : ∀ x ∈ l, ∀ M, ACalls Try.prog f ([.agg (ndC x)] ++ cap) M (fun r M' => r = .bool (p x) ∧ M' = M)) (hl : l.length ≤ 9223372036854775807) (M : List Ob) :
    ACalls Try.prog 82 [.psl l.length (encs ndC l), .fn f cap] M (fun r M' => r = .bool (l.any p) ∧ M' = M) := by
  refine acalls_of_code 9 Try.func82 rfl rfl rfl ?_
  repeat (first | refine aops_end ?_ | refine aops_p tok rfl rfl rfl rfl ?_ | refine acode_seq ?_ | refine acode_region ?_)
  refine aops_call Try.func101 rfl rfl rfl rfl (ixN_calls p hf hfn hp hl _) rfl rfl ?_
  rintro x M' ⟨⟨k, rfl, hk⟩, rfl⟩
  repeat (first | refine aops_put rfl ?_ | refine aops_end ?_ | refine aops_p tok rfl rfl rfl rfl ?_)
  refine acode_ret ?_
  skip
  exact ⟨_, ⟨rfl, rfl⟩, resOf_tmp (by show A.bool _ = A.bool _; rw [← hk])⟩
theorem ixA_calls {l : List Al} {f : Nat} {cap : List A} {fn : Func} (p : Al → Bool) (hf : Try.prog.funcs[f]? = some fn) (hfn : callable fn = true) (hp : ∀ x ∈ l, ∀ M, ACalls Try.prog f ([.agg (alC x)] ++ cap) M (fun r M' => r = .bool (p x) ∧ M' = M)) (hl : l.length ≤ 9223372036854775807) (M : List Ob) :
    ACalls Try.prog 102 [.psl l.length (encs alC l), .fn f cap] M (fun r M' => (∃ k : Int, r = .int .i64 k ∧ decide (0 ≤ k) = l.any p) ∧ M' = M) := by
  refine acalls_of_code 19 Try.func102 rfl rfl rfl ?_
  repeat (first | refine aops_end ?_ | refine aops_p tok rfl rfl rfl rfl ?_ | refine acode_seq ?_ | refine acode_region ?_ | refine acode_block ?_)
  refine acode_loopS (ι := Nat) (fun i => [(0, .psl l.length (encs alC l)), (1, .fn f cap), (7, .int .i64 l.length), (8, .int .i64 i)]) (fun _ => M) (fun i => l.length - i) (fun i => i ≤ l.length ∧ (l.take i).any p = false) 0 ⟨Nat.zero_le _, by simp⟩ ⟨rfl, rfl, rfl, rfl, trivial⟩ rfl ?_
  rintro i ⟨hi, hn⟩
  repeat (first | refine aops_end ?_ | refine aops_p tok rfl rfl rfl rfl ?_ | refine acode_seq ?_ | refine acode_region ?_)
  refine acode_id rfl (fun e => ?_) (fun e => ?_)
  · have hlt : i < l.length := by omega
    obtain ⟨x, hx⟩ : ∃ x, l[i]? = some x := ⟨l[i], List.getElem?_eq_getElem hlt⟩
    repeat (first | refine aops_end ?_ | refine aops_p tok rfl rfl rfl rfl ?_ | refine acode_seq ?_ | refine acode_region ?_ | refine acode_block ?_ | refine acode_skip ?_ | refine then_n ?_)
    refine aops_index tok (alC x) rfl rfl rfl rfl (by omega) (by omega) (by simp [alC]) (encs_at (e := alC) (s := 2) (fun _ => rfl) (i := (i : Int).toNat) (by simpa using hx)) rfl rfl ?_
    repeat (first | refine aops_put rfl ?_ | refine aops_p tok rfl rfl rfl rfl ?_)
    refine aops_callx hf rfl rfl hfn rfl (hp x (List.mem_of_getElem? hx) _) rfl rfl rfl ?_
    refine aops_end ?_
    refine acode_cond rfl (fun e => ?_) (fun e => ?_)
    · repeat (first | refine aops_end ?_ | refine aops_p tok rfl rfl rfl rfl ?_ | refine acode_seq ?_ | refine acode_region ?_)
      refine acode_ret ?_
      repeat (first | refine ret_then ?_ | refine ret_block ?_)
      refine ⟨_, ⟨⟨_, rfl, ?_⟩, rfl⟩, resOf_tmp rfl⟩
      have : l.any p = true := List.any_eq_true.2 ⟨x, List.mem_of_getElem? hx, e⟩
      rw [this]; simp
    · repeat (first | refine aops_end ?_ | refine aops_a tok rfl (by omega) (by omega) rfl rfl rfl ?_ | refine aops_p tok rfl rfl rfl rfl ?_ | refine acode_region ?_ | refine acode_skip ?_ | refine then_n ?_ | refine block_n ?_)
      refine ⟨i + 1, ⟨by omega, ?_⟩, by omega, ⟨rfl, rfl, rfl, rfl, trivial⟩, rfl⟩
      rw [List.take_add_one, hx]
      simp [hn, e]
  · have hge : i = l.length := by omega
    subst hge
    refine acode_exit ?_
    repeat (first | refine exit_then ?_ | refine exit_here ?_ | refine then_n ?_)
    repeat (first | refine aops_end ?_ | refine aops_p tok rfl rfl rfl rfl ?_ | refine acode_seq ?_ | refine acode_region ?_)
    refine acode_ret ?_
    skip
    refine ⟨_, ⟨⟨_, rfl, ?_⟩, rfl⟩, resOf_tmp rfl⟩
    rw [List.take_length] at hn
    rw [hn]; rfl
theorem cfA_calls {l : List Al} {f : Nat} {cap : List A} {fn : Func} (p : Al → Bool) (hf : Try.prog.funcs[f]? = some fn) (hfn : callable fn = true) (hp : ∀ x ∈ l, ∀ M, ACalls Try.prog f ([.agg (alC x)] ++ cap) M (fun r M' => r = .bool (p x) ∧ M' = M)) (hl : l.length ≤ 9223372036854775807) (M : List Ob) :
    ACalls Try.prog 84 [.psl l.length (encs alC l), .fn f cap] M (fun r M' => r = .bool (l.any p) ∧ M' = M) := by
  refine acalls_of_code 9 Try.func84 rfl rfl rfl ?_
  repeat (first | refine aops_end ?_ | refine aops_p tok rfl rfl rfl rfl ?_ | refine acode_seq ?_ | refine acode_region ?_)
  refine aops_call Try.func102 rfl rfl rfl rfl (ixA_calls p hf hfn hp hl _) rfl rfl ?_
  rintro x M' ⟨⟨k, rfl, hk⟩, rfl⟩
  repeat (first | refine aops_put rfl ?_ | refine aops_end ?_ | refine aops_p tok rfl rfl rfl rfl ?_)
  refine acode_ret ?_
  skip
  exact ⟨_, ⟨rfl, rfl⟩, resOf_tmp (by show A.bool _ = A.bool _; rw [← hk])⟩

def dynF (g : Gr) (r : Int) : Int := if 0 ≤ r ∧ r < g.rules.length then (ruleAt g r).dyn else 0
set_option maxHeartbeats 4000000 in
theorem dyn_calls {g : Gr} {r : Int} (M : List Ob) : ACalls Try.prog 63 [grA g, .int .i64 r] M (fun x M' => x = .int .i64 (dynF g r) ∧ M' = M) := by
  refine acalls_of_code 20 Try.func63 rfl rfl rfl ?_
  repeat (first | refine acode_seq ?_ | refine acode_region ?_)
  refine aops_boxf rfl rfl rfl rfl rfl rfl rfl ?_
  by_cases h : 0 ≤ r ∧ r < g.rules.length
  · obtain ⟨h0, h1⟩ := h
    have hd : dynF g r = (ruleAt g r).dyn := by unfold dynF; rw [if_pos ⟨h0, h1⟩]
    rw [hd]
    have hr : g.rules[r.toNat]? = some (ruleAt g r) := ruleAt_at h0 h1
    have hra := encs_at (e := ruC) (s := 3) (fun _ => rfl) hr
    generalize ruleAt g r = u at *
    repeat' (first | refine aops_end ?_ | refine aops_pbf tok rfl (by first | omega | decide) rfl rfl rfl ?_ | refine aops_p tok rfl rfl rfl rfl ?_ | refine acode_if rfl ?_ | refine acode_seq ?_ | refine acode_region ?_ | refine acode_skip ?_ | refine then_n ?_)
    try any_goals (exfalso; omega)
    refine aops_ix tok (ruC u) rfl rfl rfl rfl (by omega) (by omega) (by simp [ruC]) hra rfl rfl rfl ?_
    repeat (first | refine aops_end ?_ | refine aops_p tok rfl rfl rfl rfl ?_)
    refine acode_ret ?_
    skip
    exact ⟨_, ⟨rfl, rfl⟩, resOf_tmp rfl⟩
  · have hd : dynF g r = 0 := by unfold dynF; rw [if_neg h]
    rw [hd]
    repeat' (first | refine aops_end ?_ | refine aops_o rfl rfl rfl ?_ | (refine aops_pd tok rfl rfl rfl rfl ?_ ?_ <;> intro e_) | refine aops_p tok rfl rfl rfl rfl ?_ | refine acode_it rfl ?_ | refine acode_if rfl ?_ | refine acode_seq ?_ | refine acode_region ?_ | refine acode_skip ?_ | refine then_n ?_)
    all_goals try (exfalso; omega)
    all_goals
      (refine acode_ret ?_
       repeat (refine ret_then ?_)
       exact ⟨_, ⟨rfl, rfl⟩, resOf_tmp rfl⟩)
/-- Does a kid fit a symbol? -/
def fitB (g : Gr) (f : Fo) (k s : Int) : Bool := if isName g s then decide (0 ≤ k ∧ (f.nodes.getD k.toNat ⟨0, 0, 0, []⟩).sym = s) else decide (k < 0)
theorem nodeD_at {f : Fo} {k : Int} (h1 : k < f.nodes.length) (h0 : 0 ≤ k) : f.nodes[k.toNat]? = some (f.nodes.getD k.toNat ⟨0, 0, 0, []⟩) := by
  rw [List.getD_eq_getElem?_getD, List.getElem?_eq_getElem (by omega)]; rfl
set_option maxHeartbeats 4000000 in
theorem chfits_calls {g : Gr} {f : Fo} {k s : Int} (hk : k < f.nodes.length) (M : List Ob) : ACalls Try.prog 103 [grA g, foA f, .int .i64 k, .int .i64 s] M (fun x M' => x = .bool (fitB g f k s) ∧ M' = M) := by
  refine acalls_of_code 26 Try.func103 rfl rfl rfl ?_
  repeat (first | refine acode_seq ?_ | refine acode_region ?_)
  refine aops_boxf rfl rfl rfl rfl rfl rfl rfl ?_
  refine aops_boxf rfl rfl rfl rfl rfl rfl rfl ?_
  repeat (first | refine aops_end ?_ | refine aops_p tok rfl rfl rfl rfl ?_ | refine acode_seq ?_ | refine acode_region ?_)
  refine aops_callb Try.func108 rfl rfl rfl rfl (isName_calls _) rfl rfl rfl (fun h => ?_) (fun h => ?_)
  · have hF : fitB g f k s = decide (0 ≤ k ∧ (f.nodes.getD k.toNat ⟨0, 0, 0, []⟩).sym = s) := by unfold fitB; rw [if_pos h]
    by_cases h0 : 0 ≤ k
    · have hn := nodeD_at hk h0
      generalize f.nodes.getD k.toNat ⟨0, 0, 0, []⟩ = nd at *
      repeat' (first | refine aops_end ?_ | refine aops_pbt tok rfl (by first | omega | decide) rfl rfl rfl ?_ | refine aops_p tok rfl rfl rfl rfl ?_ | refine acode_it rfl ?_ | refine acode_seq ?_ | refine acode_region ?_)
      try any_goals (exfalso; omega)
      refine aops_ix tok (ndC nd) rfl rfl rfl rfl (by omega) (by omega) (by simp [ndC]) (nd_at hn) rfl rfl rfl ?_
      by_cases h2 : nd.sym = s
      · rw [decide_eq_true ⟨h0, h2⟩] at hF
        repeat' (first | refine aops_end ?_ | refine aops_pbt tok rfl (by first | omega | decide) rfl rfl rfl ?_ | refine aops_p tok rfl rfl rfl rfl ?_)
        try any_goals (exfalso; omega)
        refine acode_ret ?_
        repeat (refine ret_then ?_)
        exact ⟨.bool true, ⟨by rw [hF], rfl⟩, resOf_tmp rfl⟩
      · rw [decide_eq_false (fun h => h2 h.2)] at hF
        repeat' (first | refine aops_end ?_ | refine aops_pbf tok rfl (by first | omega | decide) rfl rfl rfl ?_ | refine aops_p tok rfl rfl rfl rfl ?_)
        try any_goals (exfalso; omega)
        refine acode_ret ?_
        repeat (refine ret_then ?_)
        exact ⟨.bool false, ⟨by rw [hF], rfl⟩, resOf_tmp rfl⟩
    · rw [decide_eq_false (fun h => h0 h.1)] at hF
      repeat' (first | refine aops_end ?_ | refine aops_o rfl rfl rfl ?_ | refine aops_pbf tok rfl (by first | omega | decide) rfl rfl rfl ?_ | refine aops_p tok rfl rfl rfl rfl ?_ | refine acode_it rfl ?_ | refine acode_seq ?_ | refine acode_region ?_)
      try any_goals (exfalso; omega)
      refine acode_ret ?_
      repeat (refine ret_then ?_)
      exact ⟨.bool false, ⟨by rw [hF], rfl⟩, resOf_tmp rfl⟩
  · have hF : fitB g f k s = decide (k < 0) := by unfold fitB; rw [if_neg h]
    by_cases h0 : k < 0
    · rw [decide_eq_true h0] at hF
      repeat' (first | refine aops_end ?_ | refine aops_pbt tok rfl (by first | omega | decide) rfl rfl rfl ?_ | refine aops_p tok rfl rfl rfl rfl ?_ | refine acode_if rfl ?_ | refine acode_seq ?_ | refine acode_region ?_ | refine acode_skip ?_ | refine then_n ?_)
      try any_goals (exfalso; omega)
      refine acode_ret ?_
      skip
      exact ⟨.bool true, ⟨by rw [hF], rfl⟩, resOf_tmp rfl⟩
    · rw [decide_eq_false h0] at hF
      repeat' (first | refine aops_end ?_ | refine aops_pbf tok rfl (by first | omega | decide) rfl rfl rfl ?_ | refine aops_p tok rfl rfl rfl rfl ?_ | refine acode_if rfl ?_ | refine acode_seq ?_ | refine acode_region ?_ | refine acode_skip ?_ | refine then_n ?_)
      try any_goals (exfalso; omega)
      refine acode_ret ?_
      skip
      exact ⟨.bool false, ⟨by rw [hF], rfl⟩, resOf_tmp rfl⟩
/-- Is an Alt a grammar's, of a name? -/
def ofB (g : Gr) (f : Fo) (sym : Int) (a : Al) : Bool := decide ((0 ≤ a.rule ∧ a.rule < g.rules.length) ∧ (ruleAt g a.rule).left = sym ∧ a.kids.length = (ruleAt g a.rule).right.length) && (List.range a.kids.length).all fun i => fitB g f (a.kids.getD i 0) ((ruleAt g a.rule).right.getD i 0)
set_option maxHeartbeats 8000000 in
theorem of2_calls {g : Gr} {f : Fo} {sym : Int} {a : Al} (hg : GrOk g) (hal : a.kids.length ≤ 9223372036854775807) (hk : ∀ k ∈ a.kids, k < f.nodes.length) (M : List Ob) : ACalls Try.prog 86 [grA g, foA f, .int .i64 sym, .agg (alC a)] M (fun x M' => x = .bool (ofB g f sym a) ∧ M' = M) := by
  refine acalls_of_code 65 Try.func86 rfl rfl rfl ?_
  repeat (first | refine acode_seq ?_ | refine acode_region ?_)
  refine aops_boxf rfl rfl rfl rfl rfl rfl rfl ?_
  refine aops_boxf rfl rfl rfl rfl rfl rfl rfl ?_
  refine aops_boxf rfl rfl rfl rfl rfl rfl rfl ?_
  by_cases h : 0 ≤ a.rule ∧ a.rule < g.rules.length
  rotate_left
  · have hF : ofB g f sym a = false := by unfold ofB; rw [decide_eq_false (fun h2 => h h2.1)]; rfl
    repeat' (first | refine aops_end ?_ | refine aops_o rfl rfl rfl ?_ | (refine aops_pd tok rfl rfl rfl rfl ?_ ?_ <;> intro e_) | refine aops_p tok rfl rfl rfl rfl ?_ | refine acode_it rfl ?_ | refine acode_seq ?_ | refine acode_region ?_)
    all_goals try (exfalso; omega)
    all_goals
      (refine acode_ret ?_
       repeat (refine ret_then ?_)
       exact ⟨.bool false, ⟨by rw [hF], rfl⟩, resOf_tmp rfl⟩)
  obtain ⟨h0, h1⟩ := h
  have hr : g.rules[a.rule.toNat]? = some (ruleAt g a.rule) := ruleAt_at h0 h1
  have hrm := List.mem_of_getElem? hr
  have hrr := (hg.rr _ hrm).1
  have hra := encs_at (e := ruC) (s := 3) (fun _ => rfl) hr
  have hF : ofB g f sym a = (decide ((ruleAt g a.rule).left = sym ∧ a.kids.length = (ruleAt g a.rule).right.length) && (List.range a.kids.length).all fun i => fitB g f (a.kids.getD i 0) ((ruleAt g a.rule).right.getD i 0)) := by
    unfold ofB
    congr 1
    simp [h0, h1]
  generalize ruleAt g a.rule = u at *
  repeat' (first | refine aops_end ?_ | refine aops_pbf tok rfl (by first | omega | decide) rfl rfl rfl ?_ | refine aops_p tok rfl rfl rfl rfl ?_ | refine acode_seq ?_ | refine acode_region ?_)
  try any_goals (exfalso; omega)
  refine aops_ix tok (ruC u) rfl rfl rfl rfl (by omega) (by omega) (by simp [ruC]) hra rfl rfl rfl ?_
  by_cases hl : u.left = sym
  rotate_left
  · rw [decide_eq_false (fun h => hl h.1)] at hF
    repeat' (first | refine aops_end ?_ | (refine aops_pn tok rfl rfl rfl rfl ?_ ?_ <;> intro e_) | refine aops_p tok rfl rfl rfl rfl ?_ | refine acode_it rfl ?_ | refine acode_if rfl ?_ | refine acode_seq ?_ | refine acode_region ?_ | refine acode_skip ?_ | refine then_n ?_)
    try any_goals (exfalso; omega)
    refine acode_ret ?_
    repeat (refine ret_then ?_)
    exact ⟨.bool false, ⟨by rw [hF]; rfl, rfl⟩, resOf_tmp rfl⟩
  repeat' (first | refine aops_end ?_ | (refine aops_pn tok rfl rfl rfl rfl ?_ ?_ <;> intro e_) | refine aops_p tok rfl rfl rfl rfl ?_ | refine acode_it rfl ?_ | refine acode_if rfl ?_ | refine acode_seq ?_ | refine acode_region ?_ | refine acode_skip ?_ | refine then_n ?_)
  try any_goals (exfalso; omega)
  refine aops_ix tok (ruC u) rfl rfl rfl rfl (by omega) (by omega) (by simp [ruC]) hra rfl rfl rfl ?_
  by_cases hn : a.kids.length = u.right.length
  rotate_left
  · rw [decide_eq_false (fun h => hn h.2)] at hF
    repeat' (first | refine aops_end ?_ | (refine aops_pn tok rfl rfl rfl rfl ?_ ?_ <;> intro e_) | refine aops_p tok rfl rfl rfl rfl ?_ | refine acode_it rfl ?_ | refine acode_if rfl ?_ | refine acode_seq ?_ | refine acode_region ?_ | refine acode_block ?_ | refine acode_skip ?_ | refine then_n ?_)
    try any_goals (exfalso; omega)
    refine acode_ret ?_
    repeat (refine ret_then ?_)
    exact ⟨.bool false, ⟨by rw [hF]; rfl, rfl⟩, resOf_tmp rfl⟩
  rw [decide_eq_true ⟨hl, hn⟩, Bool.true_and] at hF
  generalize hX : (fun i => fitB g f (a.kids.getD i 0) (u.right.getD i 0)) = X at hF
  repeat' (first | refine aops_end ?_ | (refine aops_pn tok rfl rfl rfl rfl ?_ ?_ <;> intro e_) | refine aops_p tok rfl rfl rfl rfl ?_ | refine acode_it rfl ?_ | refine acode_if rfl ?_ | refine acode_seq ?_ | refine acode_region ?_ | refine acode_block ?_ | refine acode_skip ?_ | refine then_n ?_)
  try any_goals (exfalso; omega)
  refine acode_loopS (ι := Nat) (fun q => [(4, .pp (grC g)), (5, .pp (foC f)), (9, .psl u.right.length (ints u.right)), (48, .psl a.kids.length (ints a.kids)), (49, .int .i64 a.kids.length), (50, .int .i64 q)]) (fun _ => M) (fun q => a.kids.length - q) (fun q => q ≤ a.kids.length ∧ (List.range q).all X = true) 0 ⟨Nat.zero_le _, rfl⟩ ⟨rfl, rfl, rfl, rfl, rfl, rfl, trivial⟩ rfl ?_
  rintro q ⟨hq, hall⟩
  repeat (first | refine aops_end ?_ | refine aops_p tok rfl rfl rfl rfl ?_ | refine acode_seq ?_ | refine acode_region ?_)
  refine acode_id rfl (fun e => ?_) (fun e => ?_)
  · have hql : q < a.kids.length := by omega
    obtain ⟨k, hkk⟩ : ∃ k, a.kids[q]? = some k := ⟨a.kids[q], List.getElem?_eq_getElem hql⟩
    obtain ⟨s, hs⟩ : ∃ s, u.right[q]? = some s := ⟨u.right[q]'(by omega), List.getElem?_eq_getElem (by omega)⟩
    have hXq : X q = fitB g f k s := by rw [← hX]; simp only; rw [List.getD_eq_getElem?_getD, hkk, List.getD_eq_getElem?_getD, hs]; rfl
    repeat (first | refine aops_p tok rfl rfl rfl rfl ?_ | refine acode_seq ?_ | refine acode_region ?_ | refine acode_block ?_ | refine acode_skip ?_ | refine then_n ?_)
    refine aops_ix tok [A.int .i64 k] rfl rfl rfl rfl (by omega) (by omega) (by simp) (ints_at (j := q) (by simpa using hkk)) rfl rfl rfl ?_
    repeat (first | refine aops_end ?_ | refine aops_p tok rfl rfl rfl rfl ?_ | refine acode_seq ?_)
    refine acode_drawT 9 mixed (by kernel_rfl) (by kernel_rfl) ?_
    repeat (refine seqT_p tok rfl rfl rfl rfl ?_)
    refine seqT_ix tok [A.int .i64 s] rfl rfl rfl rfl (by omega) (by omega) (by simp) (ints_at (j := q) (by simpa using hs)) rfl rfl rfl ?_
    repeat (refine seqT_p tok rfl rfl rfl rfl ?_)
    refine seqT_call _ Try.func103 rfl rfl rfl rfl (chfits_calls (hk k (List.mem_of_getElem? hkk)) _) rfl rfl rfl ?_
    repeat (refine seqT_p tok rfl rfl rfl rfl ?_)
    refine SeqT.done ?_
    rw [← hXq]
    cases hx : X q with
    | true =>
      repeat' (first | refine aops_end ?_ | refine aops_a tok rfl (by omega) (by omega) rfl rfl rfl ?_ | refine aops_p tok rfl rfl rfl rfl ?_ | refine acode_if rfl ?_ | refine acode_region ?_ | refine acode_skip ?_ | refine then_n ?_ | refine block_n ?_)
      exact ⟨q + 1, ⟨by omega, by rw [List.range_succ, List.all_append, hall]; simp [hx]⟩, by omega, ⟨rfl, rfl, rfl, rfl, rfl, rfl, trivial⟩, rfl⟩
    | false =>
      repeat' (first | refine aops_end ?_ | refine aops_p tok rfl rfl rfl rfl ?_ | refine acode_it rfl ?_ | refine acode_seq ?_ | refine acode_region ?_)
      refine acode_ret ?_
      repeat (first | refine ret_then ?_ | refine ret_block ?_)
      have : (List.range a.kids.length).all X = false := by
        rw [List.all_eq_false]
        exact ⟨q, List.mem_range.2 hql, by simp [hx]⟩
      exact ⟨.bool false, ⟨by rw [hF, this], rfl⟩, resOf_tmp rfl⟩
  · obtain rfl : q = a.kids.length := by omega
    refine acode_exit ?_
    repeat (first | refine exit_then ?_ | refine exit_here ?_ | refine then_n ?_)
    repeat (first | refine aops_end ?_ | refine aops_p tok rfl rfl rfl rfl ?_ | refine acode_seq ?_ | refine acode_region ?_)
    refine acode_ret ?_
    skip
    exact ⟨.bool true, ⟨by rw [hF, hall], rfl⟩, resOf_tmp rfl⟩
/-- Are all Alts of a forest a grammar's? -/
def wholeB (g : Gr) (f : Fo) : Bool := !(f.nodes.any fun n => n.alts.any fun a => !ofB g f n.sym a)
theorem whole11_calls {g : Gr} {f : Fo} {n : Nd} {a : Al} (hg : GrOk g) (hal : a.kids.length ≤ 9223372036854775807) (hk : ∀ k ∈ a.kids, k < f.nodes.length) (M : List Ob) : ACalls Try.prog 85 [.agg (alC a), .pp (grC g), .pp (foC f), .pp (ndC n)] M (fun x M' => x = .bool (!ofB g f n.sym a) ∧ M' = M) := by
  refine acalls_of_code 13 Try.func85 rfl rfl rfl ?_
  repeat (first | refine acode_seq ?_ | refine acode_region ?_)
  refine aops_boxf rfl rfl rfl rfl rfl rfl rfl ?_
  repeat (first | refine aops_end ?_ | refine aops_p tok rfl rfl rfl rfl ?_ | refine acode_seq ?_ | refine acode_region ?_)
  refine aops_callx Try.func86 rfl rfl rfl rfl (of2_calls hg hal hk _) rfl rfl rfl ?_
  repeat (first | refine aops_end ?_ | refine aops_p tok rfl rfl rfl rfl ?_)
  refine acode_ret ?_
  skip
  exact ⟨_, ⟨rfl, rfl⟩, resOf_tmp rfl⟩
theorem whole1_calls {g : Gr} {f : Fo} {n : Nd} (hg : GrOk g) (hn : n.alts.length ≤ 9223372036854775807) (ha : ∀ a ∈ n.alts, a.kids.length ≤ 9223372036854775807 ∧ ∀ k ∈ a.kids, k < f.nodes.length) (M : List Ob) : ACalls Try.prog 83 [.agg (ndC n), .pp (grC g), .pp (foC f)] M (fun x M' => x = .bool (n.alts.any fun a => !ofB g f n.sym a) ∧ M' = M) := by
  refine acalls_of_code 9 Try.func83 rfl rfl rfl ?_
  repeat (first | refine acode_seq ?_ | refine acode_region ?_)
  refine aops_boxf rfl rfl rfl rfl rfl rfl rfl ?_
  repeat (first | refine aops_end ?_ | refine aops_p tok rfl rfl rfl rfl ?_ | refine acode_seq ?_ | refine acode_region ?_)
  refine aops_callx Try.func84 rfl rfl rfl rfl (cfA_calls (fun a => !ofB g f n.sym a) Try.func85 rfl (fun a h M => whole11_calls hg (ha a h).1 (ha a h).2 M) hn _) rfl rfl rfl ?_
  repeat (first | refine aops_end ?_ | refine aops_p tok rfl rfl rfl rfl ?_)
  refine acode_ret ?_
  skip
  exact ⟨_, ⟨rfl, rfl⟩, resOf_tmp rfl⟩
theorem chwhole_calls {g : Gr} {f : Fo} (hg : GrOk g) (hf : FoOk f) (hF : FForm f) (M : List Ob) : ACalls Try.prog 49 [grA g, foA f] M (fun x M' => x = .bool (wholeB g f) ∧ M' = M) := by
  obtain ⟨hf1, hf2⟩ := id hf
  have hsm : ∀ n ∈ f.nodes, n.alts.length ≤ 9223372036854775807 ∧ ∀ a ∈ n.alts, a.kids.length ≤ 9223372036854775807 ∧ ∀ k ∈ a.kids, k < f.nodes.length := by
    intro n hn
    refine ⟨by have := (hf2 n hn).1; omega, fun a ha => ⟨by have := (hf2 n hn).2 a ha; omega, fun k hk => ?_⟩⟩
    obtain ⟨i, hi, hni⟩ := List.getElem_of_mem hn
    refine (hF.2 i hi).small ⟨a, ?_, hk⟩
    unfold altsOf
    rw [List.getElem?_eq_getElem hi, hni]
    exact ha
  refine acalls_of_code 10 Try.func49 rfl rfl rfl ?_
  repeat (first | refine acode_seq ?_ | refine acode_region ?_)
  refine aops_boxf rfl rfl rfl rfl rfl rfl rfl ?_
  refine aops_boxf rfl rfl rfl rfl rfl rfl rfl ?_
  repeat (first | refine aops_end ?_ | refine aops_p tok rfl rfl rfl rfl ?_ | refine acode_seq ?_ | refine acode_region ?_)
  refine aops_callx Try.func82 rfl rfl rfl rfl (cfN_calls (fun n => n.alts.any fun a => !ofB g f n.sym a) Try.func83 rfl (fun n h M => whole1_calls hg (hsm n h).1 (hsm n h).2 M) (by omega) _) rfl rfl rfl ?_
  repeat (first | refine aops_end ?_ | refine aops_p tok rfl rfl rfl rfl ?_)
  refine acode_ret ?_
  skip
  exact ⟨_, ⟨rfl, rfl⟩, resOf_tmp rfl⟩
end Go.Proofs.Ytbnhmioijeagiaa.Ab
/- Trees in plain terms. No condition. -/
set_option linter.unusedVariables false
set_option linter.unusedSimpArgs false
namespace Go.Proofs.Ytbnhmioijeagiaa.Ab
inductive Tr where
  | mk (rule tok : Int) (kids : List Tr)
  deriving Inhabited
def Tr.rule : Tr → Int | .mk r _ _ => r
def Tr.tok : Tr → Int | .mk _ t _ => t
def Tr.kids : Tr → List Tr | .mk _ _ ks => ks
mutual
def trC : Tr → List A
  | .mk r t ks => [.int .i64 r, .int .i64 t, .psl ks.length (trsC ks)]
def trsC : List Tr → List A
  | [] => []
  | t :: ts => trC t ++ trsC ts
end
theorem trsC_encs : ∀ ts : List Tr, trsC ts = encs trC ts
  | [] => rfl
  | t :: ts => by simp only [trsC, encs, List.flatMap_cons, trsC_encs ts]
theorem trC_eq (t : Tr) : trC t = [.int .i64 t.rule, .int .i64 t.tok, .psl t.kids.length (encs trC t.kids)] := by
  cases t with
  | mk r k ks => simp only [trC, trsC_encs, Tr.rule, Tr.tok, Tr.kids]
theorem trC_len (t : Tr) : (trC t).length = 3 := by rw [trC_eq]; rfl
theorem tr_at {l : List Tr} {i : Nat} {x : Tr} (h : l[i]? = some x) : trC x <+: (encs trC l).drop (i * 3) := encs_at trC_len h
mutual
def trSize : Tr → Nat
  | .mk _ _ ks => 1 + trsSize ks
def trsSize : List Tr → Nat
  | [] => 0
  | t :: ts => trSize t + trsSize ts
end
theorem trSize_eq (t : Tr) : trSize t = 1 + trsSize t.kids := by cases t; simp [trSize, Tr.kids]
theorem trSize_pos (t : Tr) : 0 < trSize t := by rw [trSize_eq]; omega
theorem trsSize_len : ∀ ts : List Tr, ts.length ≤ trsSize ts
  | [] => Nat.le_refl _
  | t :: ts => by have := trsSize_len ts; have := trSize_pos t; simp only [List.length_cons, trsSize]; omega
theorem trsSize_mem : ∀ {ts : List Tr} {t : Tr}, t ∈ ts → trSize t ≤ trsSize ts
  | [], _, h => by cases h
  | t0 :: ts, t, h => by
    simp only [trsSize]
    rcases List.mem_cons.1 h with rfl | h
    · omega
    · have := trsSize_mem h; omega
theorem Tr.ind {p : Tr → Prop} (h : ∀ t : Tr, (∀ k ∈ t.kids, p k) → p t) (t : Tr) : p t := by
  suffices hs : ∀ n t, trSize t < n → p t from hs _ t (Nat.lt_succ_self _)
  intro n
  induction n with
  | zero => intro t ht; omega
  | succ n ih =>
    intro t ht
    refine h t fun k hk => ih k ?_
    have := trsSize_mem hk
    rw [trSize_eq] at ht; omega
/-! ### which trees may be -/
abbrev F3 := Int × Int × Int
mutual
def mayB (fb : List F3) : Tr → Bool
  | .mk r _ ks => decide (r = -1) || maysB fb r 0 ks
def maysB (fb : List F3) (r : Int) : Nat → List Tr → Bool
  | _, [] => true
  | p, k :: ks => !(decide (k.rule ≠ -1 ∧ (r, (p : Int), k.rule) ∈ fb)) && mayB fb k && maysB fb r (p + 1) ks
end
theorem mayB_eq (fb : List F3) (t : Tr) : mayB fb t = (decide (t.rule = -1) || maysB fb t.rule 0 t.kids) := by cases t; rw [mayB]; rfl
theorem drop_at {α : Type} {l : List α} {i : Nat} {x : α} (h : l[i]? = some x) : l.drop i = x :: l.drop (i + 1) := by
  obtain ⟨h2, rfl⟩ := List.getElem?_eq_some_iff.1 h
  exact List.drop_eq_getElem_cons h2
theorem maysB_step {fb : List F3} {r : Int} {ks : List Tr} {i : Nat} {k : Tr} (h : ks[i]? = some k) : maysB fb r i (ks.drop i) = (!(decide (k.rule ≠ -1 ∧ (r, (i : Int), k.rule) ∈ fb)) && mayB fb k && maysB fb r (i + 1) (ks.drop (i + 1))) := by
  rw [drop_at h]; rfl
end Go.Proofs.Ytbnhmioijeagiaa.Ab
/- The trees of a forest, all of them in order, in plain terms. No condition. -/
set_option linter.unusedVariables false
set_option linter.unusedSimpArgs false
namespace Go.Proofs.Ytbnhmioijeagiaa.Ab
/-! ### numbers, at most great -/
def sat (n : Int) : Int := if n > great then great else n
theorem great_pos : (0 : Int) < great := by decide
theorem sat_of {n : Int} (h : sat n < great) : sat n = n := by unfold sat at h ⊢; split at h <;> split <;> omega
theorem sat_small {n : Int} (h : n ≤ great) : sat n = n := by unfold sat; rw [if_neg (by omega)]
theorem sat_zero {n : Int} (h : 0 ≤ n) : sat n = 0 ↔ n = 0 := by
  have := great_pos
  unfold sat; split <;> omega
theorem addN_sat {a b : Int} (ha : 0 ≤ a) (hb : 0 ≤ b) : addN (sat a) (sat b) = sat (a + b) := by
  have := great_pos
  unfold addN sat
  split <;> split <;> split <;> (try split) <;> omega
theorem mulN_sat {a b : Int} (ha : 0 ≤ a) (hb : 0 ≤ b) : mulN (sat a) (sat b) = sat (a * b) := by
  have hg := great_pos
  unfold mulN
  by_cases h0 : sat a = 0 ∨ sat b = 0
  · rw [if_pos h0]
    rcases h0 with h | h
    · rw [(sat_zero ha).1 h]; simp [sat]; decide
    · rw [(sat_zero hb).1 h]; simp [sat]; decide
  · rw [if_neg h0]
    have ha1 : 0 < a := by
      rcases Int.lt_or_eq_of_le ha with h | h
      · exact h
      · exact absurd (.inl ((sat_zero ha).2 h.symm)) h0
    have hb1 : 0 < b := by
      rcases Int.lt_or_eq_of_le hb with h | h
      · exact h
      · exact absurd (.inr ((sat_zero hb).2 h.symm)) h0
    have sb : 0 < sat b := by unfold sat; split <;> omega
    have sa : 0 < sat a := by unfold sat; split <;> omega
    have key : sat a > great / sat b ↔ sat a * sat b > great := by
      have := Int.ediv_lt_iff_lt_mul (a := great) (b := sat a) (c := sat b) sb
      omega
    by_cases hc : sat a > great / sat b
    · rw [if_pos hc]
      have h1 := key.1 hc
      have h2 : sat a * sat b ≤ a * b := Int.mul_le_mul (by unfold sat; split <;> omega) (by unfold sat; split <;> omega) (by omega) ha
      have h3 : a * b > great := by omega
      rw [sat, if_pos h3]
    · rw [if_neg hc]
      have h1 : ¬ sat a * sat b > great := fun h => hc (key.2 h)
      by_cases hA : a > great
      · have e1 : sat a = great := by unfold sat; rw [if_pos hA]
        have e2 : sat b = 1 := by
          rw [e1] at h1
          apply Classical.byContradiction
          intro hne
          have : great * 2 ≤ great * sat b := Int.mul_le_mul_of_nonneg_left (by omega) (by omega)
          omega
        have e3 : b = 1 := by
          unfold sat at e2
          have : (1 : Int) < great := by decide
          split at e2 <;> omega
        rw [e1, e2, e3, Int.mul_one, Int.mul_one, e1]
      · by_cases hB : b > great
        · have e1 : sat b = great := by unfold sat; rw [if_pos hB]
          have e2 : sat a = 1 := by
            rw [e1] at h1
            apply Classical.byContradiction
            intro hne
            have : 2 * great ≤ sat a * great := Int.mul_le_mul_of_nonneg_right (by omega) (by omega)
            omega
          have e3 : a = 1 := by
            unfold sat at e2
            have : (1 : Int) < great := by decide
            split at e2 <;> omega
          rw [e1, e2, e3, Int.one_mul, Int.one_mul, e1]
        · rw [sat_small (n := a) (by omega), sat_small (n := b) (by omega)] at h1 ⊢
          rw [sat_small (by omega)]
/-! ### rows of trees, one of each list, the last one turns first -/
def prodL {α : Type} : List (List α) → List (List α)
  | [] => [[]]
  | l :: ls => l.flatMap fun x => (prodL ls).map (x :: ·)
def plen {α : Type} : List (List α) → Nat
  | [] => 1
  | l :: ls => l.length * plen ls
theorem flatMap_len {α β : Type} {g : α → List β} {P : Nat} : ∀ {l : List α}, (∀ x ∈ l, (g x).length = P) → (l.flatMap g).length = l.length * P
  | [], _ => by simp
  | x :: l, h => by
    rw [List.flatMap_cons, List.length_append, h x (by simp), flatMap_len fun y hy => h y (by simp [hy]), List.length_cons, Nat.succ_mul, Nat.add_comm]
theorem prodL_len {α : Type} : ∀ ls : List (List α), (prodL ls).length = plen ls
  | [] => rfl
  | l :: ls => by
    simp only [prodL, plen]
    exact flatMap_len fun x _ => by rw [List.length_map, prodL_len ls]
theorem flatMap_at {α β : Type} {g : α → List β} {P : Nat} (hP : 0 < P) : ∀ {l : List α} {n : Nat}, (∀ x ∈ l, (g x).length = P) → (l.flatMap g)[n]? = (l[n / P]?).bind fun x => (g x)[n % P]?
  | [], n, _ => by simp
  | x :: l, n, h => by
    rw [List.flatMap_cons]
    by_cases hn : n < P
    · rw [List.getElem?_append_left (by rw [h x (by simp)]; exact hn), Nat.div_eq_of_lt hn, Nat.mod_eq_of_lt hn]; rfl
    · have hge : P ≤ n := by omega
      rw [List.getElem?_append_right (by rw [h x (by simp)]; exact hge), h x (by simp), flatMap_at hP fun y hy => h y (by simp [hy]), Nat.div_eq_sub_div hP hge, Nat.mod_eq_sub_mod hge]; rfl
/-- The n-th row: of each list the digit that the number says. -/
theorem prodL_at {α : Type} : ∀ (ls : List (List α)) (n : Nat), n < plen ls → ∃ out, (prodL ls)[n]? = some out ∧ out.length = ls.length ∧ ∀ (j : Nat) (l : List α), ls[j]? = some l → ∃ t, out[j]? = some t ∧ l[(n / plen (ls.drop (j + 1))) % l.length]? = some t
  | [], n, h => by
    simp only [plen, Nat.lt_one_iff] at h
    subst h
    exact ⟨[], rfl, rfl, fun j l h => by simp at h⟩
  | l :: ls, n, h => by
    simp only [plen] at h
    have hP : 0 < plen ls := by
      rcases Nat.eq_zero_or_pos (plen ls) with e | e
      · rw [e, Nat.mul_zero] at h; omega
      · exact e
    have hq : n / plen ls < l.length := (Nat.div_lt_iff_lt_mul hP).2 h
    obtain ⟨out, h1, h2, h3⟩ := prodL_at ls (n % plen ls) (Nat.mod_lt _ hP)
    refine ⟨l[n / plen ls] :: out, ?_, by simp [h2], fun j l' hj => ?_⟩
    · simp only [prodL]
      rw [flatMap_at hP fun x _ => by rw [List.length_map, prodL_len ls], List.getElem?_eq_getElem hq]
      simp [h1]
    · cases j with
      | zero =>
        simp at hj; subst hj
        refine ⟨_, rfl, ?_⟩
        simp only [List.drop_succ_cons, List.drop_zero]
        rw [Nat.mod_eq_of_lt hq, List.getElem?_eq_getElem hq]
      | succ j =>
        simp only [List.getElem?_cons_succ] at hj ⊢
        obtain ⟨t, h4, h5⟩ := h3 j l' hj
        refine ⟨t, h4, ?_⟩
        simp only [List.drop_succ_cons]
        have e : n % plen ls / plen (ls.drop (j + 1)) % l'.length = n / plen (ls.drop (j + 1)) % l'.length := by
          have hd : ∀ (ls : List (List α)) (j : Nat) (l' : List α), ls[j]? = some l' → ∃ c, plen ls = c * (l'.length * plen (ls.drop (j + 1))) := by
            intro ls
            induction ls with
            | nil => intro j l' h; simp at h
            | cons a ls ih =>
              intro j l' h
              cases j with
              | zero => simp at h; subst h; exact ⟨1, by simp [plen]⟩
              | succ j =>
                obtain ⟨c, hc⟩ := ih j l' (by simpa using h)
                refine ⟨a.length * c, ?_⟩
                simp only [plen, List.drop_succ_cons]
                rw [hc, Nat.mul_assoc]
          obtain ⟨c, hc⟩ := hd ls j l' hj
          rw [hc]
          generalize plen (ls.drop (j + 1)) = p
          generalize l'.length = q
          rw [Nat.mul_comm q p, ← Nat.mul_assoc, Nat.mul_comm c p, Nat.mul_assoc, Nat.mod_mul_right_div_self, Nat.mod_mul_left_mod]
        rw [← e]; exact h5
/-! ### the trees -/
def leafT (k : Int) : Tr := .mk (-1) (-1 - k) []
def kidsL (g : Nat → List Tr) (ks : List Int) : List (List Tr) := ks.map fun k => if 0 ≤ k then g k.toNat else [leafT k]
def altL (g : Nat → List Tr) (a : Al) : List Tr := (prodL (kidsL g a.kids)).map (Tr.mk a.rule 0)
def nodeL (f : Fo) (g : Nat → List Tr) (i : Nat) : List Tr := (altsOf f i).flatMap (altL g)
theorem kidsL_congr {g h : Nat → List Tr} {ks : List Int} (hk : ∀ k : Nat, (k : Int) ∈ ks → g k = h k) : kidsL g ks = kidsL h ks := by
  refine List.map_congr_left fun k hm => ?_
  split
  · rename_i h0; exact hk _ (by rw [Int.toNat_of_nonneg h0]; exact hm)
  · rfl
theorem nodeL_congr {f : Fo} {g h : Nat → List Tr} {i : Nat} (hk : ∀ k : Nat, Kid f i k → g k = h k) : nodeL f g i = nodeL f h i := by
  unfold nodeL
  have : ∀ l : List Al, (∀ a ∈ l, a ∈ altsOf f i) → l.flatMap (altL g) = l.flatMap (altL h) := by
    intro l
    induction l with
    | nil => intro _; rfl
    | cons a l ih =>
      intro hl
      rw [List.flatMap_cons, List.flatMap_cons, ih fun b hb => hl b (by simp [hb])]
      congr 1
      unfold altL
      rw [kidsL_congr fun k hm => hk k ⟨a, hl a (by simp), hm⟩]
  exact this _ fun a h => h
theorem trL_ex (f : Fo) : ∃ T : Nat → List Tr, ∀ i, WF f i → T i = nodeL f T i := recT (nodeL f) fun g h i hk => nodeL_congr hk
noncomputable def trL (f : Fo) : Nat → List Tr := Classical.choose (trL_ex f)
theorem trL_eq {f : Fo} {i : Nat} (h : WF f i) : trL f i = nodeL f (trL f) i := Classical.choose_spec (trL_ex f) i h
theorem altL_len (g : Nat → List Tr) (a : Al) : (altL g a).length = plen (kidsL g a.kids) := by unfold altL; rw [List.length_map, prodL_len]
theorem altF_sat {g : Nat → List Tr} {T : Nat → Int} : ∀ (ks : List Int) (v : Nat), (∀ k : Nat, (k : Int) ∈ ks → T k = sat (g k).length) → altF T (sat v) ks = sat ((v * plen (kidsL g ks) : Nat) : Int)
  | [], v, _ => by simp [altF, kidsL, plen]
  | k :: ks, v, hk => by
    simp only [altF, List.foldl_cons]
    have ih := fun w => altF_sat (g := g) (T := T) ks w fun k hm => hk k (by simp [hm])
    by_cases h0 : 0 ≤ k
    · rw [if_pos h0, hk k.toNat (by rw [Int.toNat_of_nonneg h0]; simp), mulN_sat (by omega) (by omega)]
      have := ih (v * (g k.toNat).length)
      rw [Int.natCast_mul] at this
      unfold altF at this
      rw [this]
      simp only [kidsL, List.map_cons, if_pos h0, plen]
      rw [Nat.mul_assoc]
    · rw [if_neg h0]
      have := ih v
      unfold altF at this
      rw [this]
      simp only [kidsL, List.map_cons, if_neg h0, plen, List.length_singleton, Nat.one_mul]
theorem altF_len {g : Nat → List Tr} {T : Nat → Int} {a : Al} (hk : ∀ k : Nat, (k : Int) ∈ a.kids → T k = sat (g k).length) : altF T 1 a.kids = sat (altL g a).length := by
  have := altF_sat a.kids 1 hk
  rw [show sat ((1 : Nat) : Int) = 1 from by decide, Nat.one_mul] at this
  rw [this, altL_len]
theorem trees_sat {f : Fo} {i : Nat} (h : WF f i) : trees f i = sat (trL f i).length := by
  induction h with
  | @mk i hi hk hs ih =>
    rw [trees_eq (.mk hi hk hs), trL_eq (.mk hi hk hs)]
    have : ∀ (l : List Al) (v : Nat), (∀ a ∈ l, a ∈ altsOf f i) → altsF (trees f) (sat v) l = sat ((v + (l.flatMap (altL (trL f))).length : Nat) : Int) := by
      intro l
      induction l with
      | nil => intro v _; simp [altsF]
      | cons a l ih2 =>
        intro v hl
        simp only [altsF, List.foldl_cons]
        rw [altF_len (g := trL f) fun k hm => ih k ⟨a, hl a (by simp), hm⟩, addN_sat (by omega) (by omega)]
        have := ih2 (v + (altL (trL f) a).length) fun b hb => hl b (by simp [hb])
        rw [Int.natCast_add] at this
        unfold altsF at this
        rw [this, List.flatMap_cons, List.length_append, Nat.add_assoc]
    have := this (altsOf f i) 0 fun a h => h
    rw [show sat ((0 : Nat) : Int) = 0 from by decide, Nat.zero_add] at this
    exact this
end Go.Proofs.Ytbnhmioijeagiaa.Ab
/- How many trees of a forest may be, in plain terms. No condition. -/
set_option linter.unusedVariables false
set_option linter.unusedSimpArgs false
namespace Go.Proofs.Ytbnhmioijeagiaa.Ab

/-! ### without anything forbidden -/
end Go.Proofs.Ytbnhmioijeagiaa.Ab
/- Package choose in plain terms: picks, the best of a node's, the tree of a pick. No condition. -/
set_option linter.unusedVariables false
set_option linter.unusedSimpArgs false
namespace Go.Proofs.Ytbnhmioijeagiaa.Ab

/-- A pick: the best tree of an Alt (tk: none, or a token's place). -/
inductive Pk where
  | tk
  | nd (a : Al) (w : Int) (kids : List Pk)
instance : Inhabited Pk := ⟨.tk⟩
def Pk.isTk : Pk → Bool | .tk => true | _ => false
def Pk.rule : Pk → Int | .tk => -1 | .nd a _ _ => a.rule
def Pk.wt : Pk → Int | .tk => 0 | .nd _ w _ => w
mutual
def pkA : Pk → A
  | .tk => .nilp
  | .nd a w ks => .cp [.int .i64 a.rule, .psl a.kids.length (ints a.kids), .int .i64 w, .psl ks.length (pksA ks)]
def pksA : List Pk → List A
  | [] => []
  | k :: ks => pkA k :: pksA ks
end
def pk1 (p : Pk) : List A := [pkA p]
theorem pk1_len (p : Pk) : (pk1 p).length = 1 := rfl
theorem pksA_encs : ∀ ks : List Pk, pksA ks = encs pk1 ks
  | [] => rfl
  | k :: ks => by rw [pksA, pksA_encs ks]; rfl
theorem pkA_nd (a : Al) (w : Int) (ks : List Pk) : pkA (.nd a w ks) = .cp [.int .i64 a.rule, .psl a.kids.length (ints a.kids), .int .i64 w, .psl ks.length (encs pk1 ks)] := by rw [pkA, pksA_encs]
def mayP (fb : List F3) (r p : Int) (q : Int) : Bool := !decide ((r, p, q) ∈ fb)
mutual
def rulesP : Pk → List Int
  | .tk => []
  | .nd a _ ks => a.rule :: rulesPs ks
def rulesPs : List Pk → List Int
  | [] => []
  | k :: ks => rulesP k ++ rulesPs ks
end
/-- Two rows held against each other, as slices.Compare does. -/
def cmpI' (a b : Int) : Int := if a < b then -1 else if a > b then 1 else 0
def cmpL : List Int → List Int → Int
  | [], [] => 0
  | [], _ :: _ => -1
  | _ :: _, [] => 1
  | x :: a, y :: b => if x = y then cmpL a b else cmpI' x y
def betP (p out : Pk) : Bool := decide (p.wt > out.wt) || (decide (p.wt = out.wt) && decide (cmpL (rulesP p) (rulesP out) < 0))
def bestS (may : Int → Bool) (out p : Pk) : Pk := if p.isTk || !may p.rule then out else if out.isTk || betP p out then p else out
def bestF (may : Int → Bool) (l : List Pk) : Pk := l.foldl (bestS may) .tk
def goP (fb : List F3) (T : Nat → List Pk) (r : Int) : Nat → List Int → Int → List Pk → Option (Int × List Pk)
  | _, [], w, ks => some (w, ks)
  | p, k :: l, w, ks => if k < 0 then goP fb T r (p + 1) l w (ks ++ [.tk]) else
    if (bestF (mayP fb r p) (T k.toNat)).isTk then none else goP fb T r (p + 1) l (IntKind.i64.wrap (w + (bestF (mayP fb r p) (T k.toNat)).wt)) (ks ++ [bestF (mayP fb r p) (T k.toNat)])
def altP (g : Gr) (T : Nat → List Pk) (a : Al) : Pk := match goP g.forbid T a.rule 0 a.kids (dynF g a.rule) [] with
  | some x => .nd a x.1 x.2
  | none => .tk
def rowP (g : Gr) (f : Fo) (T : Nat → List Pk) (i : Nat) : List Pk := (altsOf f i).map (altP g T)
theorem goP_congr {fb : List F3} {T S : Nat → List Pk} {r : Int} : ∀ (l : List Int) (p : Nat) (w : Int) (ks : List Pk), (∀ k : Nat, (k : Int) ∈ l → T k = S k) → goP fb T r p l w ks = goP fb S r p l w ks
  | [], _, _, _, _ => rfl
  | k :: l, p, w, ks, h => by
    have h2 : ∀ q : Nat, (q : Int) ∈ l → T q = S q := fun q hq => h q (by simp [hq])
    simp only [goP]
    split
    · exact goP_congr l _ _ _ h2
    · rename_i h0
      rw [h k.toNat (by rw [Int.toNat_of_nonneg (by omega)]; simp)]
      split
      · rfl
      · exact goP_congr l _ _ _ h2
theorem rowP_congr {g : Gr} {f : Fo} {T S : Nat → List Pk} {i : Nat} (hk : ∀ k : Nat, Kid f i k → T k = S k) : rowP g f T i = rowP g f S i := by
  unfold rowP
  refine List.map_congr_left fun a ha => ?_
  unfold altP
  rw [goP_congr a.kids _ _ _ fun k hm => hk k ⟨a, ha, hm⟩]
theorem pkT_ex (g : Gr) (f : Fo) : ∃ T : Nat → List Pk, ∀ i, WF f i → T i = rowP g f T i := recT (rowP g f) fun _ _ _ hk => rowP_congr hk
noncomputable def pkT (g : Gr) (f : Fo) : Nat → List Pk := Classical.choose (pkT_ex g f)
theorem pkT_eq {g : Gr} {f : Fo} {i : Nat} (h : WF f i) : pkT g f i = rowP g f (pkT g f) i := Classical.choose_spec (pkT_ex g f) i h
theorem pkT_len {g : Gr} {f : Fo} {i : Nat} (h : WF f i) : (pkT g f i).length = (altsOf f i).length := by rw [pkT_eq h]; simp [rowP]
theorem best_from (may : Int → Bool) : ∀ (l : List Pk) (out : Pk), l.foldl (bestS may) out = out ∨ (l.foldl (bestS may) out ∈ l ∧ (l.foldl (bestS may) out).isTk = false ∧ may (l.foldl (bestS may) out).rule = true)
  | [], out => .inl rfl
  | p :: l, out => by
    rw [List.foldl_cons]
    have hs : bestS may out p = out ∨ bestS may out p = p ∧ p.isTk = false ∧ may p.rule = true := by
      unfold bestS
      split
      · exact .inl rfl
      · rename_i h
        simp only [Bool.or_eq_true, Bool.not_eq_true', not_or, Bool.not_eq_true, Bool.not_eq_false] at h
        split
        · exact .inr ⟨rfl, h.1, h.2⟩
        · exact .inl rfl
    rcases best_from may l (bestS may out p) with h | ⟨h1, h2, h3⟩
    · rw [h]
      rcases hs with h4 | ⟨h4, h5, h6⟩
      · exact .inl h4
      · rw [h4]; exact .inr ⟨by simp, h5, h6⟩
    · exact .inr ⟨by simp [h1], h2, h3⟩
theorem best_in {may : Int → Bool} {l : List Pk} (h : (bestF may l).isTk = false) : bestF may l ∈ l ∧ may (bestF may l).rule = true := by
  unfold bestF at *
  rcases best_from may l .tk with h1 | h1
  · rw [h1] at h; cases h
  · exact ⟨h1.1, h1.2.2⟩
/- The tree of a pick. -/
mutual
def treeP : Pk → Tr
  | .tk => .mk (-1) 0 []
  | .nd a _ ks => .mk a.rule 0 (treesP a.kids ks)
def treesP : List Int → List Pk → List Tr
  | k :: l, .tk :: ks => leafT k :: treesP l ks
  | _ :: l, .nd a w q :: ks => treeP (.nd a w q) :: treesP l ks
  | _, _ => []
end
end Go.Proofs.Ytbnhmioijeagiaa.Ab
/- Calls that change some of one's own while all the rest is as good as frozen; much frozen at once. No condition. -/
set_option linter.unusedVariables false
set_option linter.unusedSimpArgs false
namespace Go.Proofs.Ytbnhmioijeagiaa.Ab
section
variable {G G2 : Gh} {V : List Ob}
mutual
theorem vwg_rep (hle : G.le G2) (hat : ∀ b room cs, (⟨some b, room, cs⟩ : Ob) ∈ V → ∃ vs, RepL G cs vs ∧ vs.length ≤ room ∧ At G2 b 0 vs ∧ (cs ≠ [] → G2.U b)) : ∀ (x y : A) (v : Value), Vw V x y → Rep G x v → Rep G2 y v
  | _, _, v, .refl x, h => h.mono hle x v
  | _, _, v, .own hm hr hcs hsz hl, h => by
    simp only [Rep] at h
    obtain ⟨vs, h2, h3, h4, h5⟩ := hat _ _ _ hm
    have hlen := h2.length
    refine ⟨_, _, h, Nat.le_of_mul_le_mul_right (a := _) (b := _) ?_ hsz, by simp, vs, vwgL_rep hle hat _ _ vs hl h2, .inr ⟨_, 0, rfl, h4⟩⟩
    omega
  | _, _, v, .none, h => by
    obtain ⟨rfl, _, _⟩ := h
    exact ⟨Option.none, 0, rfl, Nat.le_refl _, by simp, [], rfl, .inl rfl⟩
  | _, _, v, .nils, h => nils_psl h
  | _, _, v, .ref hm hl, h => by
    simp only [Rep] at h
    obtain ⟨vs, h2, h3, h4, h5⟩ := hat _ _ _ hm
    exact ⟨_, 0, vs, h, h4, vwgL_rep hle hat _ _ vs hl h2⟩
  | _, _, v, .refc hm hne hl, h => by
    simp only [Rep] at h
    obtain ⟨vs, h2, h3, h4, h5⟩ := hat _ _ _ hm
    exact ⟨_, 0, vs, h, h4, vwgL_rep hle hat _ _ vs hl h2, h5 hne⟩
  | _, _, v, .soft hl, h => by
    simp only [Rep] at h
    obtain ⟨b, off, vs, e, ha, h2, _⟩ := h
    exact ⟨b, off, vs, e, ha.mono hle, vwgL_rep hle hat _ _ vs hl h2⟩
  | _, _, v, .agg hl, h => by
    obtain ⟨vs, e, hl'⟩ := h
    exact ⟨vs, e, vwgL_rep hle hat _ _ vs hl hl'⟩
  | _, _, v, .psl hl, h => by
    obtain ⟨a, cap, e, hn, h0, vs, hl', hz⟩ := h
    refine ⟨a, cap, e, hn, h0, vs, vwgL_rep hle hat _ _ vs hl hl', ?_⟩
    rcases hz with rfl | ⟨b, off, e1, hat'⟩
    · exact .inl hl.nil_of
    · exact .inr ⟨b, off, e1, hat'.mono hle⟩
theorem vwgL_rep (hle : G.le G2) (hat : ∀ b room cs, (⟨some b, room, cs⟩ : Ob) ∈ V → ∃ vs, RepL G cs vs ∧ vs.length ≤ room ∧ At G2 b 0 vs ∧ (cs ≠ [] → G2.U b)) : ∀ (xs ys : List A) (vs : List Value), VwL V xs ys → RepL G xs vs → RepL G2 ys vs
  | _, _, vs, .nil, h => h
  | _, _, vs, .cons h1 h2, h => by
    obtain ⟨v, vs', e, h3, h4⟩ := h
    exact ⟨v, vs', e, vwg_rep hle hat _ _ v h1 h3, vwgL_rep hle hat _ _ vs' h2 h4⟩
end
end
mutual
/-- A value that tells of nothing frozen. -/
def looseA : A → Bool
  | .any | .bool _ | .int _ _ | .str _ | .nils | .nilp | .nilf | .ref _ _ | .own _ _ _ | .mr _ => true
  | .agg cs => looseL cs
  | .tup cs => looseL cs
  | _ => false
def looseL : List A → Bool
  | [] => true
  | x :: xs => looseA x && looseL xs
end
mutual
theorem loose_rep {G G' : Gh} : ∀ (x : A) (v : Value), looseA x = true → Rep G x v → Rep G' x v
  | .any, v, _, h | .bool _, v, _, h | .int _ _, v, _, h | .str _, v, _, h | .nils, v, _, h | .nilp, v, _, h | .nilf, v, _, h | .ref _ _, v, _, h | .mr _, v, _, h => h
  | .own none _ _, v, _, h | .own (some _) _ _, v, _, h => h
  | .agg cs, v, hp, h => by
    obtain ⟨vs, e, hl⟩ := h
    exact ⟨vs, e, looseL_rep cs vs (by simpa only [looseA] using hp) hl⟩
  | .tup cs, v, hp, h => by
    obtain ⟨vs, e, hl⟩ := h
    exact ⟨vs, e, looseL_rep cs vs (by simpa only [looseA] using hp) hl⟩
  | .pp _, _, hp, _ | .cp _, _, hp, _ | .tref _ _, _, hp, _ | .town _ _ _ _, _, hp, _ | .psl _ _, _, hp, _ | .fn _ _, _, hp, _ | .mp _, _, hp, _ | .yld _, _, hp, _ => by simp [looseA] at hp
theorem looseL_rep {G G' : Gh} : ∀ (xs : List A) (vs : List Value), looseL xs = true → RepL G xs vs → RepL G' xs vs
  | [], vs, _, h => h
  | x :: xs, vs, hp, h => by
    simp only [looseL, Bool.and_eq_true] at hp
    obtain ⟨v, vs', e, h1, h2⟩ := h
    exact ⟨v, vs', e, loose_rep x v hp.1 h1, looseL_rep xs vs' hp.2 h2⟩
end
theorem mem_keys {M : List Ob} {b : Nat} : b ∈ keys M ↔ ∃ o ∈ M, o.b = some b := List.mem_filterMap
theorem keys_app (M N : List Ob) : keys (M ++ N) = keys M ++ keys N := List.filterMap_append ..
/-- A call that changes W alone, V as good as frozen. -/
theorem acalls_part {P : Program} {f : FuncId} {aS bs : List A} {V W : List Ob} {R : A → List Ob → Prop} (hv : VwL V aS bs) (hc : ACalls P f bs W R) (hx : ∀ x M', R x M' → looseA x = true ∧ ∀ o ∈ M', looseL o.cs = true) :
    ACalls P f aS (W ++ V) (fun r M' => ∃ M1, R r M1 ∧ M' = M1 ++ V) := by
  classical
  intro G w vs hok hl
  have hnd := hok.nd
  rw [List.filterMap_append, List.nodup_append] at hnd
  obtain ⟨ndW, ndV, dis⟩ := hnd
  let G1 : Gh := ⟨fun b => if b ∈ keys W then [] else (G0 w).Z b, (G0 w).Y, fun b => b ∉ keys W ∧ (G0 w).U b, (G0 w).W⟩
  have z1 : ∀ b, b ∈ keys W → G1.Z b = [] := fun b h => if_pos h
  have z2 : ∀ b, b ∉ keys W → G1.Z b = (G0 w).Z b := fun b h => if_neg h
  have hle : G.le G1 := by
    refine ⟨fun b => ?_, (g_le_G0 hok).2.1, fun b hu => ⟨fun hb => ?_, (g_le_G0 hok).2.2.1 b hu⟩, (g_le_G0 hok).2.2.2⟩
    rotate_left
    · obtain ⟨o, ho, hob⟩ := mem_keys.1 hb
      exact (hok.um b hu).1 (hok.un o (List.mem_append_left _ ho) b hob)
    by_cases hb : b ∈ keys W
    · obtain ⟨o, ho, hob⟩ := mem_keys.1 hb
      rw [hok.un o (List.mem_append_left _ ho) b hob]; exact List.nil_prefix
    · rw [z2 b hb]; exact (g_le_G0 hok).1 b
  have notW : ∀ o ∈ V, ∀ b, o.b = some b → b ∉ keys W := fun o ho b hb hm => dis b hm b (List.mem_filterMap.2 ⟨o, ho, hb⟩) rfl
  have hok1 : Ok ⟨w, keys W, G1⟩ G1 W w := by
    refine ⟨Gh.le_refl _, rfl, rfl, rfl, Nat.le_refl _, fun _ _ _ => rfl, fun b hb => ?_, fun o ho b hb => ?_, fun o ho => hok.vn o (List.mem_append_left _ ho), fun o ho b hb => z1 b (mem_keys.2 ⟨o, ho, hb⟩), fun o ho b hb => .inl (mem_keys.2 ⟨o, ho, hb⟩), ndW, (ok_init w).mz, fun b hu => ⟨by rw [z2 b hu.1]; exact ((ok_init w).um b hu.2).1, ((ok_init w).um b hu.2).2⟩, (ok_init w).wt⟩
    · by_cases hm : b ∈ keys W
      · exact absurd (z1 b hm) hb
      · rw [z2 b hm] at hb ⊢
        exact (ok_init w).fz b hb
    · obtain ⟨us, sp, t, a1, a2, a3⟩ := hok.ow o (List.mem_append_left _ ho) b hb
      exact ⟨us, sp, t, a1, a2.mono hle, a3⟩
  have hat : ∀ b room cs, (⟨some b, room, cs⟩ : Ob) ∈ V → ∃ vs, RepL G cs vs ∧ vs.length ≤ room ∧ At G1 b 0 vs ∧ (cs ≠ [] → G1.U b) := by
    intro b room cs hm
    obtain ⟨us, a1, a2, a3, a4⟩ := own_at hok (List.mem_append_right _ hm)
    refine ⟨us, a1, a2, ?_, fun hne => ⟨notW _ hm b rfl, a4 hne⟩⟩
    unfold At at a3 ⊢
    rw [z2 b (notW _ hm b rfl)]; exact a3
  refine (hc G1 w vs hok1 (vwgL_rep hle hat _ _ _ hv hl)).mono ?_
  rintro e w' ⟨v, r, M', G', rfl, hr, ho, hR⟩
  obtain ⟨l1, l2⟩ := hx _ _ hR
  refine ⟨v, r, M' ++ V, G, rfl, loose_rep _ _ l1 hr, ?_, M', hR, rfl⟩
  have hh : ∀ k, k < w.heap.size → k ∉ keys W → w'.heap[k]? = w.heap[k]? := fun k hk hn => ho.fr k hk hn
  have zW : ∀ b, G.Z b ≠ [] → b ∉ keys W := by
    intro b hb hm
    obtain ⟨o, ho, hob⟩ := mem_keys.1 hm
    exact hb (hok.un o (List.mem_append_left _ ho) b hob)
  refine ⟨Gh.le_refl _, ho.os, ho.tape, ho.output, ho.size, fun k hk hn => ?_, fun b hb => ?_, fun o hm b hb => ?_, fun o hm hb => ?_, fun o hm b hb => ?_, fun o hm b hb => ?_, ?_, fun b ks e => ?_, fun b hu => ?_, fun b t e => ?_⟩
  · exact hh k hk (fun h => hn (by show k ∈ keys (W ++ V); rw [keys_app]; exact List.mem_append_left _ h))
  · rw [hh b (hok.zlt hb) (zW b hb)]; exact hok.fz b hb
  · rcases List.mem_append.1 hm with h | h
    · obtain ⟨us, sp, t, a1, a2, a3⟩ := ho.ow o h b hb
      exact ⟨us, sp, t, a1, looseL_rep _ _ (l2 o h) a2, a3⟩
    · rw [hh b (hok.lt (List.mem_append_right _ h) hb) (notW o h b hb)]; exact hok.ow o (List.mem_append_right _ h) b hb
  · rcases List.mem_append.1 hm with h | h
    · exact ho.vn o h hb
    · exact hok.vn o (List.mem_append_right _ h) hb
  · rcases List.mem_append.1 hm with h | h
    · rcases ho.kb o h b hb with h2 | h2
      · obtain ⟨o2, ho2, hob2⟩ := mem_keys.1 h2
        exact hok.un o2 (List.mem_append_left _ ho2) b hob2
      · apply Classical.byContradiction
        intro hz
        exact absurd (hok.zlt hz) (Nat.not_lt.2 h2)
    · exact hok.un o (List.mem_append_right _ h) b hb
  · rcases List.mem_append.1 hm with h | h
    · rcases ho.kb o h b hb with h2 | h2
      · exact .inl (by show b ∈ keys (W ++ V); rw [keys_app]; exact List.mem_append_left _ h2)
      · exact .inr h2
    · exact .inl (by show b ∈ keys (W ++ V); rw [keys_app]; exact List.mem_append_right _ (mem_keys.2 ⟨o, h, hb⟩))
  · rw [List.filterMap_append, List.nodup_append]
    refine ⟨ho.nd, ndV, fun a ha b hb e => ?_⟩
    subst e
    obtain ⟨o, h, hob⟩ := List.mem_filterMap.1 ha
    obtain ⟨o2, h2, hob2⟩ := List.mem_filterMap.1 hb
    rcases ho.kb o h a hob with h3 | h3
    · exact notW o2 h2 a hob2 h3
    · exact absurd (hok.lt (List.mem_append_right _ h2) hob2) (Nat.not_lt.2 h3)
  · have hn : b ∉ keys W := fun hm => by
      obtain ⟨o, ho, hob⟩ := mem_keys.1 hm
      obtain ⟨us, sp, t, a1, _⟩ := hok.ow o (List.mem_append_left _ ho) b hob
      obtain ⟨es, c, a2, _⟩ := (hok.mz b ks e).1
      rw [a1] at a2; cases a2
    rw [hh b (hok.ylt e) hn]; exact hok.mz b ks e
  · have h1 := (hok.um b hu).1
    rw [hh b (hok.zlt h1) (zW b h1)]; exact hok.um b hu
  · exact ho.wt b t (ho.g.2.2.2 b t (hle.2.2.2 b t e))
/-- What is told of some temporaries, V's objects told as frozen ones. -/
def VwE (V : List Ob) (E : Env) : Env → Prop
  | [] => True
  | (t, x) :: r => Vw V (get E t) x ∧ VwE V E r
theorem VwE.get {V : List Ob} {E : Env} : ∀ {E' : Env}, VwE V E E' → ∀ t, Ab.get E' t = .any ∨ Vw V (Ab.get E t) (Ab.get E' t)
  | [], _, t => .inl rfl
  | (s, x) :: r, ⟨h1, h2⟩, t => by
    simp only [Ab.get]
    cases hb : Nat.beq s t with
    | true =>
      obtain rfl := Nat.eq_of_beq_eq_true hb
      exact .inr h1
    | false => exact VwE.get h2 t
section
variable {P : Program} {T : List TI} {N : Nat} {ops : Array Oper} {rest : List Oper} {o : Oper} {Q : Exit → St → Prop} {E F : Env} {M : List Ob}
theorem inv_freezeV {K : Ctx} {G : Gh} {a : Act} {w : World} {V : List Ob} {E' : Env} (hi : Inv K N G ⟨E, V ++ M⟩ a w) (hE : VwE V E E') : ∃ G', Inv K N G' ⟨E', M⟩ a w := by
  classical
  have hok := hi.ok
  have hnd := hok.nd
  rw [List.filterMap_append, List.nodup_append] at hnd
  obtain ⟨ndV, ndM, dis⟩ := hnd
  let G1 : Gh := ⟨fun b => if b ∈ keys V then (G0 w).Z b else G.Z b, G.Y, fun b => G.U b ∨ b ∈ keys V ∧ (G0 w).U b, G.W⟩
  have z1 : ∀ b, b ∈ keys V → G1.Z b = (G0 w).Z b := fun b h => if_pos h
  have z2 : ∀ b, b ∉ keys V → G1.Z b = G.Z b := fun b h => if_neg h
  have hle : G.le G1 := by
    refine ⟨fun b => ?_, fun b ks e => e, fun b h => .inl h, fun b t h => h⟩
    by_cases hb : b ∈ keys V
    · rw [z1 b hb]; exact (g_le_G0 hok).1 b
    · rw [z2 b hb]; exact List.prefix_refl _
  have hat : ∀ b room cs, (⟨some b, room, cs⟩ : Ob) ∈ V → ∃ vs, RepL G cs vs ∧ vs.length ≤ room ∧ At G1 b 0 vs ∧ (cs ≠ [] → G1.U b) := by
    intro b room cs hm
    obtain ⟨us, a1, a2, a3, a4⟩ := own_at hok (List.mem_append_left _ hm)
    refine ⟨us, a1, a2, ?_, fun hne => .inr ⟨mem_keys.2 ⟨_, hm, rfl⟩, a4 hne⟩⟩
    unfold At at a3 ⊢
    rw [z1 b (mem_keys.2 ⟨_, hm, rfl⟩)]; exact a3
  refine ⟨G1, ⟨Gh.le_trans hok.g hle, hok.os, hok.tape, hok.output, hok.size, hok.fr, fun b hb => ?_, fun o ho b hb => ?_, fun o ho => hok.vn o (List.mem_append_right _ ho), fun o ho b hb => ?_, fun o ho => hok.kb o (List.mem_append_right _ ho), ndM, hok.mz, fun b hb => ?_, hok.wt⟩, hi.sz, hi.df, fun t => ?_⟩
  · by_cases hm : b ∈ keys V
    · rw [z1 b hm] at hb ⊢; exact (ok_init w).fz b hb
    · rw [z2 b hm] at hb ⊢; exact hok.fz b hb
  · obtain ⟨us, sp, t, a1, a2, a3⟩ := hok.ow o (List.mem_append_right _ ho) b hb
    exact ⟨us, sp, t, a1, a2.mono hle, a3⟩
  · have hn : b ∉ keys V := fun h => dis b h b (List.mem_filterMap.2 ⟨o, ho, hb⟩) rfl
    rw [z2 b hn]; exact hok.un o (List.mem_append_right _ ho) b hb
  · rcases hb with hb | ⟨hb, c, t, h1, h2⟩
    · obtain ⟨h1, h2⟩ := hok.um b hb
      refine ⟨fun e => h1 ?_, h2⟩
      have := hle.1 b
      rw [e] at this
      exact List.prefix_nil.1 this
    · refine ⟨?_, c, t, h1⟩
      rw [z1 b hb]
      simp only [G0, h1]
      exact h2
  · rcases hE.get t with h | h
    · rw [h]; trivial
    · exact vwg_rep hle hat _ _ _ h (hi.ev t)
/-- All the objects of V are frozen from now on. -/
theorem acode_freezeV {c : Code} (V : List Ob) (E' : Env) (hE : VwE V E E') (next : ACode P N c Q ⟨E', M⟩) : ACode P N c Q ⟨E, V ++ M⟩ :=
  acode_weaken (fun K G a w hi => inv_freezeV hi hE) next
end
end Go.Proofs.Ytbnhmioijeagiaa.Ab
/- Maps that say yes to rows of numbers: held against a row. No condition. -/
set_option linter.unusedVariables false
set_option linter.unusedSimpArgs false
namespace Go.Proofs.Ytbnhmioijeagiaa.Ab
section
variable {P : Program} {T : List TI} {N : Nat} {ops : Array Oper} {rest : List Oper} {o : Oper} {Q : Exit → St → Prop} {E F : Env} {M : List Ob}
theorem run_eqInts (w : World) (d : Nat) (t e : TypeId) (n : Nat) (k : IntKind) (ht : P.underlying t = some (.array n e)) (he : P.underlying e = some (.int k)) (hsz : ∀ w, (sizeOf e).run P w = .ok 1 w) (xs ys : List Int) (hx : xs.length = n) (hy : ys.length = n) :
    (Op.equalIn (d + 2) t (.agg (xs.map (Value.int k)).toArray) (.agg (ys.map (Value.int k)).toArray)).run P w = .ok (decide (xs = ys)) w := by
  have hd : decide (xs = ys) = decide (∀ i ∈ List.range' 0 n 1, xs.getD i 0 = ys.getD i 0) := by
    congr 1
    rw [eq_iff_iff]
    constructor
    · rintro rfl i _; rfl
    · intro h
      refine List.ext_getElem (by omega) fun i h1 h2 => ?_
      have := h i (by rw [List.mem_range'_1]; omega)
      simpa [List.getD, List.getElem?_eq_getElem h1, List.getElem?_eq_getElem h2] using this
  rw [hd, Op.equalIn]
  simp only [Sem.run_bind, run_underlying ht, Result.andThen_ok, hsz, Std.Legacy.Range.forIn_eq_forIn_range', Std.Legacy.Range.size, Nat.sub_zero, Nat.add_sub_cancel, Nat.div_one]
  have hl : ∀ i ∈ List.range' 0 n 1, i < n := fun i hi => by simpa using (List.mem_range'_1.1 hi).2
  generalize List.range' 0 n 1 = l at hl ⊢
  induction l with
  | nil => simp
  | cons i l ih =>
    have hi : i < n := hl i (by simp)
    have px : ∀ zs : List Int, zs.length = n → (part e (zs.map (Value.int k)).toArray (i * 1)).run P w = .ok (Value.int k (zs.getD i 0)) w := fun zs hz => by
      simp [part, isAgg, run_underlying he, List.getD, List.getElem?_eq_getElem (show i < zs.length by omega)]
    have pe : (Op.equalIn (d + 1) e (Value.int k (xs.getD i 0)) (Value.int k (ys.getD i 0))).run P w = .ok (decide (xs.getD i 0 = ys.getD i 0)) w := by
      rw [run_equalIn_int w d e k k _ _ he]
      simp
      rfl
    simp only [List.forIn_cons, Sem.run_bind, px xs hx, px ys hy, pe, Result.andThen_ok]
    by_cases h : xs.getD i 0 = ys.getD i 0
    · simp only [h, decide_true, Bool.not_true, Bool.false_eq_true, if_false, Sem.run_pure, List.mem_cons, forall_eq_or_imp, true_and]
      exact ih fun j hj => hl j (by simp [hj])
    · have : ¬ ∀ j ∈ i :: l, xs.getD j 0 = ys.getD j 0 := fun hh => h (hh i (by simp))
      simp only [h, decide_false, Bool.not_false, if_true, Sem.run_pure, Result.andThen_ok, this]
theorem run_checkInts (w : World) (em : Bool) (m : Nat) (t e : TypeId) (n : Nat) (k : IntKind) (ht : P.underlying t = some (.array n e)) (he : P.underlying e = some (.int k)) (hsz : ∀ w, (sizeOf e).run P w = .ok 1 w) (xs : List Int) (hx : xs.length = n) :
    (Instr.checkKey em (m + 2) t (.agg (xs.map (Value.int k)).toArray)).run P w = .ok () w := by
  rw [Instr.checkKey]
  simp only [Sem.run_bind, run_underlying ht, Result.andThen_ok, hsz, Std.Legacy.Range.forIn_eq_forIn_range', Std.Legacy.Range.size, Nat.sub_zero, Nat.add_sub_cancel, Nat.div_one]
  have hl : ∀ i ∈ List.range' 0 n 1, i < n := fun i hi => by simpa using (List.mem_range'_1.1 hi).2
  generalize List.range' 0 n 1 = l at hl ⊢
  induction l with
  | nil => simp
  | cons i l ih =>
    have hi : i < n := hl i (by simp)
    have px : (part e (xs.map (Value.int k)).toArray (i * 1)).run P w = .ok (Value.int k (xs.getD i 0)) w := by
      simp [part, isAgg, run_underlying he, List.getD, List.getElem?_eq_getElem (show i < xs.length by omega)]
    have pc : (Instr.checkKey em (m + 1) e (Value.int k (xs.getD i 0))).run P w = .ok () w := by
      simp [Instr.checkKey, run_underlying he]
    simp only [List.forIn_cons, Sem.run_bind, hsz, px, pc, Result.andThen_ok, Sem.run_pure] at ih ⊢
    exact ih fun j hj => hl j (by simp [hj])

theorem keyView_keyV (k : List Int) : keyView (keyV k) = some k := by
  simp only [keyView, keyV]
  induction k with
  | nil => rfl
  | cons x k ih =>
    simp only [List.map_cons, List.mapM_cons, intView]
    rw [ih]; rfl
theorem keyView_inv {v : Value} {k : List Int} (h : keyView v = some k) : v = keyV k := by
  cases v with
  | agg cs =>
    simp only [keyView] at h
    have : ∀ (l : List Value) (k : List Int), l.mapM intView = some k → l = k.map (Value.int .i64) := by
      intro l
      induction l with
      | nil => intro k hk; simp at hk; subst hk; rfl
      | cons v l ih =>
        intro k hk
        simp only [List.mapM_cons] at hk
        cases hv : intView v with
        | none => simp [hv] at hk
        | some x =>
          cases hl : l.mapM intView with
          | none => simp [hv, hl] at hk
          | some ks =>
            simp [hv, hl] at hk
            subst hk
            have : v = .int .i64 x := by
              unfold intView at hv
              split at hv
              · simp at hv; subst hv; rfl
              · cases hv
            rw [this, ih ks hl]; rfl
    have := this _ _ h
    unfold keyV
    rw [← this]
  | _ => simp [keyView] at h
structure KeyT (P : Program) (kt : Nat) (n : Nat) : Prop where
  e : ∃ e, P.underlying kt = some (.array n e) ∧ P.underlying e = some (.int .i64) ∧ ∀ w, (sizeOf e).run P w = .ok 1 w
theorem run_askInts (w : World) {kt n : Nat} (hk : KeyT P kt n) (k : List Int) (hl : k.length = n) : ∀ (es : List MapEntry) (ks : List (List Int)) (i : Nat), mapView es = some ks → (∀ x ∈ ks, x.length = n) →
    (k ∈ ks ∧ ∃ j e, (Instr.findAsking kt (keyV k) es i).run P w = .ok (some (i + j, .bool true)) w ∧ es[j]? = some e ∧ e.key = keyV k) ∨ (k ∉ ks ∧ (Instr.findAsking kt (keyV k) es i).run P w = .ok none w)
  | [], ks, i, h, _ => by
    simp only [mapView, Option.some.injEq] at h
    subst h
    exact .inr ⟨by simp, by simp [Instr.findAsking]⟩
  | e :: es, ks, i, h, hn => by
    obtain ⟨et, h1, h2, h3⟩ := hk.e
    simp only [mapView] at h
    split at h
    · rename_i k1 hv hb
      cases hm : mapView es with
      | none => simp [hm] at h
      | some ks' =>
        simp only [hm, Option.map_some, Option.some.injEq] at h
        subst h
        have ek := keyView_inv hv
        have eq : (Op.equal kt (keyV k) e.key).run P w = .ok (decide (k = k1)) w := by
          rw [ek]
          exact run_eqInts w 9998 kt et n .i64 h1 h2 h3 k k1 hl (hn k1 (by simp))
        by_cases hkk : k = k1
        · refine .inl ⟨by simp [hkk], 0, e, ?_, rfl, by rw [ek, hkk]⟩
          subst hkk
          simp [Instr.findAsking, eq, hb]
        · rcases run_askInts w hk k hl es ks' (i + 1) hm (fun x hx => hn x (by simp [hx])) with ⟨a1, j, e', a2, a3, a4⟩ | ⟨a1, a2⟩
          · exact .inl ⟨by simp [a1], j + 1, e', by simp [Instr.findAsking, eq, hkk, a2, Nat.add_assoc, Nat.add_comm 1 j], by simpa using a3, a4⟩
          · exact .inr ⟨by simp [hkk, a1], by simp [Instr.findAsking, eq, hkk, a2]⟩
    · cases h
theorem und_map {t k e : Nat} {i : TI} (h : TG P t i) (hk : i.k = .map k e) : P.underlying t = some (.map k e) := by
  obtain ⟨d, h1, h2⟩ := h.und
  rw [hk] at h2
  cases d <;> simp [tkOf] at h2
  rw [h1, h2.1, h2.2]
/-- What the table says of a map's type: from rows of n numbers to truth values. -/
def mapT (T : List TI) (t n : Nat) : Bool := match kindOf T t with
  | some (.map k e) => (match kindOf T k with
    | some (.array m x) => Nat.beq m n && (match known T x with | some ⟨.int .i64, 1, _, _⟩ => true | _ => false)
    | _ => false) && (match known T e with | some ⟨.bool, _, _, [.bool false]⟩ => true | _ => false)
  | _ => false
theorem mapT_spec (hT : TOk P T) {t n : Nat} (h : mapT T t n = true) : ∃ k e, P.underlying t = some (.map k e) ∧ KeyT P k n ∧ (∀ w, (zeroValue e).run P w = .ok (.bool false) w) ∧ ∃ x, P.underlying k = some (.array n x) := by
  unfold mapT at h
  split at h
  · rename_i k e hk
    rw [Bool.and_eq_true] at h
    obtain ⟨ha, hb⟩ := h
    split at ha
    · rename_i m x hkm
      rw [Bool.and_eq_true] at ha
      obtain ⟨h1, h2⟩ := ha
      obtain rfl := Nat.eq_of_beq_eq_true h1
      split at h2
      · rename_i bb zz hx
        split at hb
        · rename_i s1 b1 he
          obtain ⟨ti, hti, hkk⟩ := Option.map_eq_some_iff.1 hk
          obtain ⟨k1, k2⟩ := known_spec hti
          obtain ⟨tj, htj, hkj⟩ := Option.map_eq_some_iff.1 hkm
          obtain ⟨k3, k4⟩ := known_spec htj
          obtain ⟨k5, k6⟩ := known_spec hx
          obtain ⟨k7, k8⟩ := known_spec he
          have hu := und_map (hT.get k1 k2) hkk
          have ha : P.underlying k = some (.array m x) := by
            obtain ⟨d, d1, d2⟩ := (hT.get k3 k4).und
            rw [hkj] at d2
            cases d <;> simp [tkOf] at d2
            rw [d1, d2.1, d2.2]
          refine ⟨k, e, hu, ⟨x, ha, und_int (hT.get k5 k6) rfl, fun w => run_size (hT.get k5 k6)⟩, fun w => ?_, x, ha⟩
          obtain ⟨info, z, i1, i2, i3, i4, i5, i6, i7⟩ := (hT.get k7 k8).info
          obtain ⟨v, v1, v2⟩ := i7 rfl
          simp at v1
          subst v1; subst v2
          obtain ⟨z', z1, z2⟩ := run_zero (P := P) (w := w) (hT.get k7 k8)
          have : (zeroValue e).run P w = .ok (.bool false) w := by
            simp [zeroValue, run_info i1, i4]
          exact this
        · cases hb
      · cases h2
    · cases ha
  · cases h
theorem ints_value {G : Gh} : ∀ {l : List Int} {vs : List Value}, RepL G (ints l) vs → vs = l.map (Value.int .i64)
  | [], _, h => h
  | x :: l, _, h => by
    obtain ⟨v, vs', rfl, h1, h2⟩ := h
    simp only [Rep] at h1
    rw [h1, ints_value h2]; rfl
theorem look_run (hT : TOk P T) {t n : Nat} (ht : mapT T t n = true) {w : World} {b : Nat} {es : Array MapEntry} {c : Nat} (hb : w.heap[b]? = some (.map es c)) {ks : List (List Int)} (hv : mapView es.toList = some ks) (hn : ∀ x ∈ ks, x.length = n) (k : List Int) (hk : k.length = n) :
    (Instr.lookup t (.map (some b)) (keyV k) false).run P w = .ok (.bool (decide (k ∈ ks))) w := by
  obtain ⟨kt, et, h1, h2, h3, x, h4⟩ := mapT_spec hT ht
  obtain ⟨e, h5, h6, h7⟩ := id h2.e
  have hc := run_checkInts (P := P) w es.isEmpty 9998 kt e n .i64 h5 h6 h7 k hk
  have hf := run_findKey_eq (P := P) w (k := kt) (by rw [h4]) (keyV k) es.toList
  unfold Instr.lookup
  rcases run_askInts w h2 k hk es.toList ks 0 hv hn with ⟨a1, j, e', a2, a3, a4⟩ | ⟨a1, a2⟩
  · simp only [Sem.run_bind, run_underlying h1, Result.andThen_ok, MapKept.run_getObj_map hb, Sem.run_pure]
    rw [show (Instr.checkKey es.isEmpty 10000 kt (keyV k)).run P w = .ok () w from hc]
    simp only [Result.andThen_ok, hf, a2, Sem.run_pure, a1, decide_true]
    rfl
  · simp only [Sem.run_bind, run_underlying h1, Result.andThen_ok, MapKept.run_getObj_map hb, Sem.run_pure]
    rw [show (Instr.checkKey es.isEmpty 10000 kt (keyV k)).run P w = .ok () w from hc]
    simp only [Result.andThen_ok, hf, a2, Sem.run_pure, Sem.run_bind, h3, a1, decide_false]
    rfl
theorem yields_look (hT : TOk P T) {t n : Nat} {x ix : Operand} {ks : List (List Int)} {k : List Int} (ho : o.op = .lookup t x ix false) (ht : mapT T t n = true) (hx : opA F x = .mp ks) (hix : opA F ix = .agg (ints k)) (hn : ∀ x ∈ ks, x.length = n) (hk : k.length = n)
    (hg : guardOn ops o F = some true) (hd : dstOk N o.dst = true) : Yields P N ops o (.bool (decide (k ∈ ks))) F M := by
  intro E hE rest Q next
  have hox : ∀ y ∈ o.op.operands, opA E y = opA F y := fun y hy => agree_op hE hy
  rw [ho] at hox
  have hx' : opA E x = .mp ks := by rw [hox x (by simp [Op.operands]), hx]
  have hix' : opA E ix = .agg (ints k) := by rw [hox ix (by simp [Op.operands]), hix]
  refine aops_val (by rw [agree_guard hE]; exact hg) hd (.bool (decide (k ∈ ks))) M (fun K G av w hi => ?_) next
  have hrx := opA_rep hi x
  have hry := opA_rep hi ix
  rw [hx'] at hrx; rw [hix'] at hry
  obtain ⟨b, ex, hy⟩ := hrx
  obtain ⟨vs, ey, hl⟩ := hry
  have e2 := ints_value hl
  subst e2
  obtain ⟨es, c, m1, m2⟩ := (hi.ok.mz b ks hy).1
  refine ⟨_, w, G, ?_, hi.ok, G.le_refl, rfl⟩
  have := look_run hT ht m1 m2 hn k hk
  simp only [execOp, ho, ex, ey, Sem.run_bind, show (Value.agg (List.map (Value.int IntKind.i64) k).toArray) = keyV k from rfl, this, Result.andThen_ok]
  rfl
end
end Go.Proofs.Ytbnhmioijeagiaa.Ab
/- A new map while it is filled: the walk beside it, and its freezing. No condition. -/
set_option linter.unusedVariables false
set_option linter.unusedSimpArgs false
namespace Go.Proofs.Ytbnhmioijeagiaa.Ab
/-- The invariant, and one new map of one's own besides. -/
structure InvM (K : Ctx) (N : Nat) (G : Gh) (st : St) (a : Act) (w : World) (b : Nat) (es : Array MapEntry) (c : Nat) : Prop where
  i : Inv K N G st a w
  m : w.heap[b]? = some (.map es c)
  nw : K.w0.heap.size ≤ b
  y : G.Y b = none
abbrev Pst := Ctx → Exit → Act → World → Prop
def GCode (P : Program) (N : Nat) (c : Code) (R : Pst) (st : St) : Prop := ∀ K G a w, Inv K N G st a w → c.wp P (R K) a w
def GOps (P : Program) (N : Nat) (ops : Array Oper) (l : List Oper) (R : Pst) (st : St) : Prop := ∀ K G a w, Inv K N G st a w → wpList P ops (R K) l a w
def HCode (P : Program) (N : Nat) (c : Code) (R : Pst) (b : Nat) (es : Array MapEntry) (cl : Nat) (st : St) : Prop := ∀ K G a w, InvM K N G st a w b es cl → c.wp P (R K) a w
def HOps (P : Program) (N : Nat) (ops : Array Oper) (l : List Oper) (R : Pst) (b : Nat) (es : Array MapEntry) (cl : Nat) (st : St) : Prop := ∀ K G a w, InvM K N G st a w b es cl → wpList P ops (R K) l a w
section
variable {P : Program} {T : List TI} {N : Nat} {ops : Array Oper} {rest : List Oper} {o : Oper} {Q : Exit → St → Prop} {R : Pst} {E F : Env} {M : List Ob} {st st' : St} {b : Nat} {es : Array MapEntry} {cl : Nat} {x y : Code}
def toR (N : Nat) (Q : Exit → St → Prop) : Pst := fun K => lift K N Q
def thenR (P : Program) (y : Code) (R : Pst) : Pst := fun K => Exit.then (y.wp P (R K)) (R K)
def blockR (id : Nat) (R : Pst) : Pst := fun K => Exit.inBlock id (R K)
theorem acode_of_g (h : GCode P N x (toR N Q) st) : ACode P N x Q st := h
theorem gcode_of_a (h : ACode P N x Q st) : GCode P N x (toR N Q) st := h
theorem gcode_seq (h : GCode P N x (thenR P y R) st) : GCode P N (.seq x y) R st := fun K G a w hi => wp_seq (h K G a w hi)
theorem hcode_seq (h : HCode P N x (thenR P y R) b es cl st) : HCode P N (.seq x y) R b es cl st := fun K G a w hi => wp_seq (h K G a w hi)
theorem hcode_block {id : Nat} (h : HCode P N x (blockR id R) b es cl st) : HCode P N (.block id x) R b es cl st := fun K G a w hi => wp_block (h K G a w hi)
theorem gcode_region {id : Nat} {l : List Oper} (h : GOps P N l.toArray l R st) : GCode P N (.region id l.toArray false) R st := fun K G a w hi => wp_region_lit (h K G a w hi)
theorem hcode_region {id : Nat} {l : List Oper} (h : HOps P N l.toArray l R b es cl st) : HCode P N (.region id l.toArray false) R b es cl st := fun K G a w hi => wp_region_lit (h K G a w hi)
theorem hops_end (h : HCode P N y R b es cl st) : HOps P N ops [] (thenR P y R) b es cl st := fun K G a w hi => wpList_nil (h K G a w hi)
theorem hcode_skip (h : HCode P N y R b es cl st) : HCode P N .skip (thenR P y R) b es cl st := fun K G a w hi => wp_skip (h K G a w hi)
/-- What another walk leaves, beside the map. -/
theorem InvM.back {K : Ctx} {G G' : Gh} {a a' : Act} {w w' : World} (h : InvM K N G st a w b es cl) (h' : Inv ⟨w, keys st.M, G⟩ N G' st' a' w') : InvM K N G' st' a' w' b es cl := by
  have hlt : b < w.heap.size := (Array.getElem?_eq_some_iff.1 h.m).1
  have hn : b ∉ keys st.M := fun hm => by
    obtain ⟨o, ho, hob⟩ := List.mem_filterMap.1 hm
    obtain ⟨us, sp, t, a1, _⟩ := h.i.ok.ow o ho b hob
    rw [h.m] at a1; cases a1
  refine ⟨⟨h.i.ok.back h'.ok, h'.sz, h'.df, h'.ev⟩, by rw [h'.ok.fr b hlt hn]; exact h.m, h.nw, ?_⟩
  cases hy : G'.Y b with
  | none => rfl
  | some ks =>
    have := (h'.ok.mz b ks hy).2 hlt
    rw [h.y] at this; cases this
theorem InvM.enter {K : Ctx} {G : Gh} {a : Act} {w : World} (h : InvM K N G st a w b es cl) : Inv ⟨w, keys st.M, G⟩ N G st a w := ⟨h.i.ok.enter, h.i.sz, h.i.df, h.i.ev⟩
theorem hcode_a (h : ACode P N x (fun e s => e = .normal ∧ HCode P N y R b es cl s) st) : HCode P N x (thenR P y R) b es cl st := fun K G a w hi => by
  refine wp_mono (h _ G a w hi.enter) ?_
  rintro e a' w' ⟨G', s, ⟨rfl, next⟩, i⟩
  exact next K G' a' w' (hi.back i)
theorem wpList_cons_of {Q1 Q2 : Exit → Act → World → Prop} {l : List Oper} {a : Act} {w : World} (h : wpList P ops Q1 [o] a w) (h1 : ∀ a w, Q1 .normal a w → wpList P ops Q2 l a w) (h2 : ∀ e a w, Q1 e a w → e = .normal) : wpList P ops Q2 (o :: l) a w := by
  have hlo : LetsOut Q1 → LetsOut Q2 := fun ⟨a0, w0, h0⟩ => by have := h2 _ _ _ h0; cases this
  simp only [wpList] at h ⊢
  split at h
  · rename_i hw
    rw [if_pos hw]
    rcases h with h | ⟨h3, h4⟩
    · refine .inl ?_
      unfold Oper.wp at h ⊢
      generalize (execOp a.eval o).run P w = r at h ⊢
      cases r with
      | ok n w' =>
        cases n <;> simp only [Oper.upon] at h ⊢ <;> first
          | exact h1 _ _ h
          | exact h
          | (refine Calls.mono h (fun e w'' he => ?_)
             cases e with
             | returned v => exact h1 _ _ he
             | panicked ch => have := h2 _ _ _ he; cases this
             | outgrown => exact hlo he)
          | exact Rows.mono h (fun _ _ he => h1 _ _ he)
      | halt e w' =>
        cases e <;> simp only [Oper.upon] at h ⊢
        have := h2 _ _ _ h; cases this
    · exact .inr ⟨h3, hlo h4⟩
  · rename_i hw
    rw [if_neg hw]
    exact h1 _ _ h
theorem hops_a {l : List Oper} (h : AOps P N ops [o] (fun e s => e = .normal ∧ HOps P N ops l R b es cl s) st) : HOps P N ops (o :: l) R b es cl st := fun K G a w hi =>
  wpList_cons_of (h _ G a w hi.enter) (by rintro a' w' ⟨G', s, ⟨_, next⟩, i⟩; exact next K G' a' w' (hi.back i)) (by rintro e a' w' ⟨G', s, ⟨rfl, _⟩, i⟩; rfl)
theorem hcode_cond {t : Tmp} {p : Prop} [Decidable p] (hb : get st.E t = .bool (decide p)) (h1 : p → HCode P N x R b es cl st) (h0 : ¬ p → HCode P N y R b es cl st) : HCode P N (.cond (.tmp t) x y) R b es cl st := fun K G a w hi => by
  have he := hi.i.ev t
  rw [hb] at he
  simp only [Rep] at he
  exact wp_cond_split (t := decide p) he (fun hb => h1 (of_decide_eq_true hb) K G a w hi) (fun hb => h0 (of_decide_eq_false hb) K G a w hi)
theorem hcode_loop {ι : Type} {c : Code} (S : ι → Env) (L : ι → List Ob) (X : ι → Array MapEntry × Nat) (m : ι → Nat) (I : ι → Prop) (i0 : ι) (h0 : I i0) (hE : subE (S i0) E) (hM : M = L i0) (hX : X i0 = (es, cl))
    (round : ∀ i, I i → HCode P N c (fun K => Exit.then (fun a w => ∃ j G E', I j ∧ m j < m i ∧ subE (S j) E' ∧ InvM K N G ⟨E', L j⟩ a w b (X j).1 (X j).2) (R K)) b (X i).1 (X i).2 ⟨S i, L i⟩) : HCode P N (.loop c) R b es cl ⟨E, M⟩ := by
  subst hM
  intro K G a w hi
  have hsub : ∀ {G : Gh} {a : Act} {w : World} {E E' : Env} {M : List Ob} {es cl}, subE E' E → InvM K N G ⟨E, M⟩ a w b es cl → InvM K N G ⟨E', M⟩ a w b es cl := fun h hi => ⟨inv_sub h hi.i, hi.m, hi.nw, hi.y⟩
  refine wp_loop_ghost (fun n a w => ∃ i G, I i ∧ m i = n ∧ InvM K N G ⟨S i, L i⟩ a w b (X i).1 (X i).2) (m i0) ⟨i0, G, h0, rfl, by rw [hX]; exact hsub hE hi⟩ ?_
  rintro n a w ⟨i, G, hI, rfl, hi⟩
  refine wp_mono (round i hI K G a w hi) ?_
  intro e a' w' h
  cases e with
  | normal =>
    obtain ⟨j, G', E', hj, hm, hs, hi'⟩ := h
    exact ⟨m j, hm, j, G', hj, rfl, hsub hs hi'⟩
  | _ => exact h
/-- A new map. -/
theorem gops_make {t d : Nat} (ho : o.op = .makeMap t none) (hg : guardOn ops o E = some true) (hd : o.dst = some d) (hN : Nat.blt d N = true)
    (next : ∀ b, HOps P N ops rest R b #[] 0 ⟨(d, .mr b) :: E, M⟩) : GOps P N ops (o :: rest) R ⟨E, M⟩ := by
  intro K G a w hi
  have hok : Ok K G M (w.alloc (.map #[] 0)) := by
    have k := hi.ok
    have ha : ∀ j, j < w.heap.size → (w.alloc (.map #[] 0)).heap[j]? = w.heap[j]? := (MapKept.heap_alloc w _).2
    refine ⟨k.g, k.os, k.tape, k.output, Nat.le_trans k.size (by simp), fun j h1 h2 => ?_, fun j hz => ?_, fun o ho j hj => ?_, k.vn, k.un, k.kb, k.nd, fun j ks e => ?_, fun j hu => ?_, fun j t' e => ?_⟩
    · rw [ha j (Nat.lt_of_lt_of_le h1 k.size)]; exact k.fr j h1 h2
    · rw [ha j (k.zlt hz)]; exact k.fz j hz
    · rw [ha j (k.lt ho hj)]; exact k.ow o ho j hj
    · rw [ha j (k.ylt e)]; exact k.mz j ks e
    · rw [ha j (k.zlt (k.um j hu).1)]; exact k.um j hu
    · rw [ha j (k.wlt e)]; exact k.wt j t' e
  have hy : G.Y w.heap.size = none := by
    cases hy : G.Y w.heap.size with
    | none => rfl
    | some ks => exact absurd (hi.ok.ylt hy) (Nat.lt_irrefl _)
  have hrun : (execOp a.eval o).run P w = .ok (.value (.map (some w.heap.size))) (w.alloc (.map #[] 0)) := by
    simp [execOp, ho, Instr.makeMap]
  refine wpList_step fun Kn hK => ?_
  have hw : Region.wanted o (yielded ops a.tmps) = true := guard_spec hi hg
  rw [if_pos hw]
  unfold Oper.wp
  rw [hrun]
  simp only [Oper.upon]
  refine hK _ _ (next w.heap.size K G _ _ ⟨?_, (MapKept.heap_alloc w _).1, hi.ok.size, hy⟩)
  have := hi.put (G.le_refl) hok (d := o.dst) (by rw [hd]; exact hN) (x := .mr w.heap.size) (v := .map (some w.heap.size)) rfl
  rw [hd] at this ⊢
  exact this
theorem mapView_push {es : Array MapEntry} {ks : List (List Int)} {k : List Int} {c : Nat} (h : mapView es.toList = some ks) : mapView (es.push ⟨keyV k, .bool true, c⟩).toList = some (ks ++ [k]) := by
  rw [Array.toList_push]
  generalize es.toList = l at h ⊢
  induction l generalizing ks with
  | nil => simp [mapView] at h; subst h; simp [mapView, keyView_keyV]
  | cons e l ih =>
    simp only [mapView, List.cons_append] at h ⊢
    split at h
    · rename_i k1 h1 h2
      cases hm : mapView l with
      | none => simp [hm] at h
      | some ks' =>
        simp only [hm, Option.map_some, Option.some.injEq] at h
        subst h
        simp [ih hm]
    · cases h
theorem mapView_set {k : List Int} : ∀ {l : List MapEntry} {ks : List (List Int)} {j : Nat} {e : MapEntry}, mapView l = some ks → l[j]? = some e → e.key = keyV k → mapView (l.modify j fun e => { e with key := keyV k, val := .bool true }) = some ks
  | [], ks, j, e, h, hj, _ => by simp at hj
  | e0 :: l, ks, j, e, h, hj, he => by
    simp only [mapView] at h
    split at h
    · rename_i k1 h1 h2
      cases hm : mapView l with
      | none => simp [hm] at h
      | some ks' =>
        simp only [hm, Option.map_some, Option.some.injEq] at h
        subst h
        cases j with
        | zero =>
          simp at hj; subst hj
          have : k1 = k := by rw [he, keyView_keyV] at h1; exact (Option.some.inj h1).symm
          simp [mapView, keyView_keyV, hm, this]
        | succ j =>
          simp at hj
          have := mapView_set hm hj he
          simp [mapView, h1, h2, this]
    · cases h
theorem setObj_facts {w : World} {b : Nat} {o o' : Obj} (hb : w.heap[b]? = some o) : ({ w with heap := w.heap.setIfInBounds b o' } : World).heap[b]? = some o' ∧ ∀ k, k ≠ b → ({ w with heap := w.heap.setIfInBounds b o' } : World).heap[k]? = w.heap[k]? := MapKept.heap_set hb
theorem InvM.setm {K : Ctx} {G : Gh} {a : Act} {w : World} (h : InvM K N G st a w b es cl) (es' : Array MapEntry) (cl' : Nat) : InvM K N G st a { w with heap := w.heap.setIfInBounds b (.map es' cl') } b es' cl' := by
  obtain ⟨h1, h2⟩ := setObj_facts (o' := .map es' cl') h.m
  have k := h.i.ok
  have nb : ∀ o ∈ st.M, o.b ≠ some b := fun o ho hob => by
    obtain ⟨us, sp, t, a1, _⟩ := k.ow o ho b hob
    rw [h.m] at a1; cases a1
  refine ⟨⟨⟨k.g, k.os, k.tape, k.output, by simpa using k.size, fun j h3 h4 => ?_, fun j hz => ?_, fun o ho j hj => ?_, k.vn, k.un, k.kb, k.nd, fun j ks e => ?_, fun j hu => ?_, fun j t e => ?_⟩, h.i.sz, h.i.df, h.i.ev⟩, h1, h.nw, h.y⟩
  · rw [h2 j (by have := h.nw; omega)]; exact k.fr j h3 h4
  · rw [h2 j (by rintro rfl; obtain ⟨c, t, f, a1, _⟩ := k.fz j hz; rw [h.m] at a1; cases a1)]; exact k.fz j hz
  · rw [h2 j (by rintro rfl; exact nb o ho hj)]; exact k.ow o ho j hj
  · rw [h2 j (by rintro rfl; rw [h.y] at e; cases e)]; exact k.mz j ks e
  · rw [h2 j (by rintro rfl; obtain ⟨_, c, t, a1⟩ := k.um j hu; rw [h.m] at a1; cases a1)]; exact k.um j hu
  · rw [h2 j (by rintro rfl; obtain ⟨c, f, a1⟩ := k.wt j t e; rw [h.m] at a1; cases a1)]; exact k.wt j t e
theorem sameBits_ints (n : Nat) (k : List Int) : Instr.sameBits (n + 2) (keyV k) (keyV k) = true := by
  simp only [keyV, Instr.sameBits, Bool.and_eq_true, beq_self_eq_true, true_and, List.all_eq_true, List.toList_toArray]
  rintro ⟨u, v⟩ h
  have : u = v ∧ ∃ z, u = Value.int .i64 z := by
    obtain ⟨i, hi⟩ := List.getElem?_of_mem h
    rw [List.getElem?_zip_eq_some] at hi
    obtain ⟨h1, h2⟩ := hi
    rw [h1] at h2
    obtain ⟨z, hz, rfl⟩ := List.mem_map.1 (List.mem_of_getElem? h1)
    exact ⟨Option.some.inj h2, z, rfl⟩
  obtain ⟨rfl, z, rfl⟩ := this
  simp [Instr.sameBits]
/-- A row of numbers is said yes to. -/
theorem hops_upd (hT : TOk P T) {t n : Nat} {xm xk xv : Operand} {ks : List (List Int)} {k : List Int} (ho : o.op = .mapUpdate t xm xk xv) (ht : mapT T t n = true) (hm : opA E xm = .mr b) (hk : opA E xk = .agg (ints k)) (hv : opA E xv = .bool true)
    (hes : mapView es.toList = some ks) (hn : ∀ x ∈ ks, x.length = n) (hkn : k.length = n) (hg : guardOn ops o E = some true) (hd : o.dst = none)
    (next : ∀ es' cl', mapView es'.toList = some (if k ∈ ks then ks else ks ++ [k]) → HOps P N ops rest R b es' cl' ⟨E, M⟩) : HOps P N ops (o :: rest) R b es cl ⟨E, M⟩ := by
  intro K G a w hi
  have r1 := opA_rep hi.i xm
  have r2 := opA_rep hi.i xk
  have r3 := opA_rep hi.i xv
  rw [hm] at r1; rw [hk] at r2; rw [hv] at r3
  simp only [Rep] at r1 r3
  obtain ⟨vs, e2, hl⟩ := r2
  have e3 := ints_value hl
  subst e3
  obtain ⟨kt, et, h1, h2, h3, x, h4⟩ := mapT_spec hT ht
  obtain ⟨e, h5, h6, h7⟩ := id h2.e
  have hc := run_checkInts (P := P) w false 9998 kt e n .i64 h5 h6 h7 k hkn
  have hf := run_findKey_eq (P := P) w (k := kt) (by rw [h4]) (keyV k) es.toList
  have done : ∀ es' cl', (Instr.mapUpdate t (.map (some b)) (keyV k) (.bool true)).run P w = .ok () { w with heap := w.heap.setIfInBounds b (.map es' cl') } → mapView es'.toList = some (if k ∈ ks then ks else ks ++ [k]) → wpList P ops (R K) (o :: rest) a w := by
    intro es' cl' hrun a1
    have hr : (execOp a.eval o).run P w = .ok .skip { w with heap := w.heap.setIfInBounds b (.map es' cl') } := by
      simp only [execOp, ho, r1, e2, r3, Sem.run_bind, show (Value.agg (List.map (Value.int IntKind.i64) k).toArray) = keyV k from rfl, hrun, Result.andThen_ok]
      rfl
    refine wpList_step fun Kn hK => ?_
    have hw : Region.wanted o (yielded ops a.tmps) = true := guard_spec hi.i hg
    rw [if_pos hw]
    unfold Oper.wp
    rw [hr]
    simp only [Oper.upon]
    rw [hd]
    exact hK _ _ (next es' cl' a1 K G a _ (hi.setm es' cl'))
  rcases run_askInts w h2 k hkn es.toList ks 0 hes hn with ⟨a1, j, e', a2, a3, a4⟩ | ⟨a1, a2⟩
  · refine done (es.modify j fun e => { e with key := keyV k, val := .bool true }) cl ?_ ?_
    · unfold Instr.mapUpdate
      simp only [Sem.run_bind, run_underlying h1, Result.andThen_ok, MapKept.run_getObj_map hi.m, Sem.run_pure]
      rw [show (Instr.checkKey false 10000 kt (keyV k)).run P w = .ok () w from hc]
      have ej : es[j]? = some e' := by simpa using a3
      simp only [Result.andThen_ok, hf, a2, Nat.zero_add, ej, Option.map_some, Option.getD_some, a4, Instr.keyThatStays, sameBits_ints 9998 k, if_true, Sem.run_pure, Sem.run_bind, MapKept.run_setObj_map _ hi.m]
    · rw [if_pos a1]
      have ej : es[j]? = some e' := by simpa using a3
      have := mapView_set hes (by simpa using ej) a4
      rw [Array.toList_modify]
      exact this
  · refine done (es.push ⟨keyV k, .bool true, cl⟩) (cl + 1) ?_ (by rw [if_neg a1]; exact mapView_push hes)
    unfold Instr.mapUpdate
    simp only [Sem.run_bind, run_underlying h1, Result.andThen_ok, MapKept.run_getObj_map hi.m, Sem.run_pure]
    rw [show (Instr.checkKey false 10000 kt (keyV k)).run P w = .ok () w from hc]
    simp only [Result.andThen_ok, hf, a2, Sem.run_bind, MapKept.run_setObj_map _ hi.m]
/-- The map is read alone from now on. -/
theorem hcode_freeze {t : Nat} {ks : List (List Int)} (hes : mapView es.toList = some ks) (ht : get E t = .mr b) (next : GCode P N x R ⟨(t, .mp ks) :: E, M⟩) : HCode P N x R b es cl ⟨E, M⟩ := by
  intro K G a w hi
  let G' : Gh := ⟨G.Z, fun j => if j = b then some ks else G.Y j, G.U, G.W⟩
  have yb : G'.Y b = some ks := if_pos rfl
  have yo : ∀ j, j ≠ b → G'.Y j = G.Y j := fun j h => if_neg h
  have hle : G.le G' := ⟨fun _ => List.prefix_refl _, fun j l e => by
    by_cases h : j = b
    · subst h; rw [hi.y] at e; cases e
    · rw [yo j h]; exact e, fun _ h => h, fun _ _ h => h⟩
  have k := hi.i.ok
  refine next K G' a w ⟨⟨Gh.le_trans k.g hle, k.os, k.tape, k.output, k.size, k.fr, k.fz, fun o ho j hj => ?_, k.vn, k.un, k.kb, k.nd, fun j l e => ?_, k.um, k.wt⟩, hi.i.sz, hi.i.df, fun s => ?_⟩
  · obtain ⟨us, sp, t, a1, a2, a3⟩ := k.ow o ho j hj
    exact ⟨us, sp, t, a1, a2.mono hle, a3⟩
  · by_cases h : j = b
    · subst h
      rw [yb] at e; cases e
      exact ⟨⟨es, cl, hi.m, hes⟩, fun hlt => by have := hi.nw; omega⟩
    · rw [yo j h] at e; exact k.mz j l e
  · simp only [get]
    cases hs : Nat.beq t s with
    | true =>
      obtain rfl := Nat.eq_of_beq_eq_true hs
      have := hi.i.ev t
      rw [ht] at this
      exact ⟨b, this, yb⟩
    | false => exact (hi.i.ev s).mono hle _ _
theorem hops_endb {id : Nat} (h : HCode P N y R b es cl st) : HOps P N ops [] (blockR id (thenR P y R)) b es cl st := fun K G a w hi => wpList_nil (h K G a w hi)
theorem hops_fin (h : ∀ K G a w, InvM K N G st a w b es cl → R K .normal a w) : HOps P N ops [] R b es cl st := fun K G a w hi => wpList_nil (h K G a w hi)
/-- Out of a loop in a block, and on behind it. -/
theorem hcode_exit_on {id : Nat} {Z : Ctx → Act → World → Prop} {y' : Code} (h : HCode P N y R b es cl st) : HCode P N (.exit id) (thenR P y' (fun K => Exit.then (Z K) (blockR id (thenR P y R) K))) b es cl st := fun K G a w hi => by
  refine wp_exit ?_
  show (if id = id then _ else _)
  rw [if_pos rfl]
  exact h K G a w hi
end
end Go.Proofs.Ytbnhmioijeagiaa.Ab
/- Chapter 23's set of what is forbidden: the walk. No condition. -/
set_option linter.unusedVariables false
set_option linter.unusedSimpArgs false
namespace Go.Proofs.Ytbnhmioijeagiaa.Ab
attribute [local irreducible] thenA inBlockA ACode AOps put IntKind.wrap

def l3 (f : Int × Int × Int) : List Int := [f.1, f.2.1, f.2.2]
theorem l3_inj {f f' : Int × Int × Int} (h : l3 f = l3 f') : f = f' := by
  obtain ⟨a, b, c⟩ := f; obtain ⟨a', b', c'⟩ := f'
  simp only [l3, List.cons.injEq, and_true] at h
  obtain ⟨rfl, rfl, rfl⟩ := h; rfl
/-- What is forbidden, as a map. -/
def SetOf (l : List (Int × Int × Int)) (ks : List (List Int)) : Prop := (∀ x ∈ ks, x.length = 3) ∧ ∀ f, l3 f ∈ ks ↔ f ∈ l
def setF (l : List (Int × Int × Int)) : List (List Int) := l.foldl (fun ks f => if l3 f ∈ ks then ks else ks ++ [l3 f]) []
theorem setF_add {l : List (Int × Int × Int)} {i : Nat} {f : Int × Int × Int} (h : l[i]? = some f) : setF (l.take (i + 1)) = if l3 f ∈ setF (l.take i) then setF (l.take i) else setF (l.take i) ++ [l3 f] := by
  unfold setF
  rw [List.take_add_one, h, List.foldl_append]; rfl
theorem setF_of (l : List (Int × Int × Int)) : SetOf l (setF l) := by
  suffices h : ∀ (l m : List (Int × Int × Int)) (ks : List (List Int)), SetOf m ks → SetOf (m ++ l) (l.foldl (fun ks f => if l3 f ∈ ks then ks else ks ++ [l3 f]) ks) by
    have := h l [] [] ⟨by simp, by simp⟩
    rw [List.nil_append] at this
    exact this
  intro l
  induction l with
  | nil => intro m ks h; rw [List.append_nil]; exact h
  | cons f l ih =>
    intro m ks h
    have := ih (m ++ [f]) (if l3 f ∈ ks then ks else ks ++ [l3 f]) ?_
    · rw [List.append_assoc] at this; exact this
    · split
      · rename_i hm
        refine ⟨h.1, fun f' => ?_⟩
        rw [h.2]
        simp only [List.mem_append, List.mem_singleton]
        exact ⟨.inl, fun h2 => h2.elim id fun e => by rw [e]; exact (h.2 f).1 hm⟩
      · refine ⟨fun x hx => ?_, fun f' => ?_⟩
        · rcases List.mem_append.1 hx with hx | hx
          · exact h.1 x hx
          · simp only [List.mem_singleton] at hx; subst hx; rfl
        · simp only [List.mem_append, List.mem_singleton, h.2]
          exact ⟨fun h2 => h2.imp id l3_inj, fun h2 => h2.imp id fun e => by rw [e]⟩
theorem f3_at {l : List (Int × Int × Int)} {i : Nat} {x : Int × Int × Int} (h : l[i]? = some x) : f3C x <+: (encs f3C l).drop (i * 3) := encs_at (e := f3C) (s := 3) (fun _ => rfl) h

set_option maxHeartbeats 1000000 in
theorem fset_calls {g : Gr} (hf : g.forbid.length ≤ 9223372036854775807) (M : List Ob) : ACalls Try.prog 50 [grA g] M (fun r M' => r = .mp (setF g.forbid) ∧ M' = M) := by
  refine acalls_of_code 18 Try.func50 rfl rfl rfl ?_
  refine acode_seq ?_
  refine acode_region ?_
  refine aops_boxf rfl rfl rfl rfl rfl rfl rfl ?_
  repeat (refine aops_p tok rfl rfl rfl rfl ?_)
  refine aops_end ?_
  refine acode_of_g (gcode_seq (gcode_region (gops_make rfl rfl rfl rfl fun b => ?_)))
  refine hops_a ?_
  repeat (refine aops_p tok rfl rfl rfl rfl ?_)
  refine aops_nil ⟨rfl, ?_⟩
  refine hops_end ?_
  refine hcode_seq (hcode_seq ?_)
  refine hcode_a ?_
  refine acode_region ?_
  repeat (refine aops_p tok rfl rfl rfl rfl ?_)
  refine aops_nil ⟨rfl, ?_⟩
  refine hcode_block ?_
  refine hcode_loop (ι := Nat × Array MapEntry × Nat) (fun p => [(3, .mr b), (8, .psl g.forbid.length (encs f3C g.forbid)), (9, .int .i64 g.forbid.length), (10, .int .i64 p.1)]) (fun _ => M) (fun p => (p.2.1, p.2.2)) (fun p => g.forbid.length - p.1)
    (fun p => p.1 ≤ g.forbid.length ∧ mapView p.2.1.toList = some (setF (g.forbid.take p.1))) (0, #[], 0) ⟨Nat.zero_le _, rfl⟩ ⟨rfl, rfl, rfl, rfl, trivial⟩ rfl rfl ?_
  rintro ⟨i, es, cl⟩ ⟨hi, hv⟩
  simp only at hi hv ⊢
  refine hcode_seq ?_
  refine hcode_a ?_
  refine acode_region ?_
  repeat (refine aops_p tok rfl rfl rfl rfl ?_)
  refine aops_nil ⟨rfl, ?_⟩
  refine hcode_seq (hcode_cond rfl (fun e => ?_) (fun e => ?_))
  · have hlt : i < g.forbid.length := by omega
    obtain ⟨f, hff⟩ : ∃ f, g.forbid[i]? = some f := ⟨g.forbid[i], List.getElem?_eq_getElem hlt⟩
    refine hcode_skip (hcode_seq (hcode_block (hcode_seq ?_)))
    refine hcode_a ?_
    refine acode_region ?_
    refine aops_ix tok (f3C f) rfl rfl rfl rfl (by omega) (by omega) (by simp [f3C]) (f3_at hff) rfl rfl rfl ?_
    repeat (refine aops_p tok rfl rfl rfl rfl ?_)
    refine aops_alloc tok rfl rfl rfl rfl rfl rfl fun bf => ?_
    refine aops_stn tok rfl rfl rfl rfl rfl rfl rfl rfl rfl ?_
    refine aops_pubref0 5 rfl ?_
    refine aops_nil ⟨rfl, ?_⟩
    refine hcode_region ?_
    refine hops_a ?_
    repeat (refine aops_p tok rfl rfl rfl rfl ?_)
    refine aops_nil ⟨rfl, ?_⟩
    refine hops_a ?_
    repeat (refine aops_p tok rfl rfl rfl rfl ?_)
    refine aops_nil ⟨rfl, ?_⟩
    refine hops_upd tok (k := l3 f) rfl rfl rfl rfl rfl hv (setF_of _).1 rfl rfl rfl fun es' cl' h1 => ?_
    refine hops_endb (hcode_region ?_)
    refine hops_a ?_
    repeat (refine aops_a tok rfl (by omega) (by omega) rfl rfl rfl ?_)
    refine aops_nil ⟨rfl, ?_⟩
    refine hops_a ?_
    repeat (refine aops_p tok rfl rfl rfl rfl ?_)
    refine aops_nil ⟨rfl, ?_⟩
    refine hops_fin fun K G a w hi' => ⟨(i + 1, es', cl'), G, _, ⟨by simp; omega, by rw [h1, setF_add hff]⟩, by simp; omega, ⟨rfl, rfl, rfl, rfl, trivial⟩, hi'⟩
  · have hge : i = g.forbid.length := by omega
    subst hge
    rw [List.take_length] at hv
    refine hcode_exit_on ?_
    refine hcode_freeze (t := 3) hv rfl ?_
    refine gcode_of_a ?_
    repeat (first | refine aops_end ?_ | refine aops_p tok rfl rfl rfl rfl ?_ | refine acode_seq ?_ | refine acode_region ?_)
    refine acode_ret ?_
    skip
    exact ⟨_, ⟨rfl, rfl⟩, resOf_tmp rfl⟩
end Go.Proofs.Ytbnhmioijeagiaa.Ab
/- Objects of one's own frozen, and what others tell of them. No condition. -/
set_option linter.unusedVariables false
set_option linter.unusedSimpArgs false
namespace Go.Proofs.Ytbnhmioijeagiaa.Ab
theorem perm3 {a b c : Ob} {M : List Ob} : (a :: b :: c :: M).Perm (c :: a :: b :: M) := List.perm_middle (l₁ := [a, b])
/-- The same objects, V's told as frozen ones in their cells. -/
inductive VwM (V : List Ob) : List Ob → List Ob → Prop where
  | nil : VwM V [] []
  | same {o : Ob} {M M' : List Ob} (t : VwM V M M') : VwM V (o :: M) (o :: M')
  | cons {b : Option Nat} {room : Nat} {cs ds : List A} {M M' : List Ob} (h : VwL V cs ds) (hn : b = none → ds = []) (t : VwM V M M') : VwM V (⟨b, room, cs⟩ :: M) (⟨b, room, ds⟩ :: M')
theorem VwM.rfl' {V : List Ob} : ∀ (M : List Ob), VwM V M M
  | [] => .nil
  | _ :: M => .same (VwM.rfl' M)
theorem VwM.mem {V : List Ob} : ∀ {M M' : List Ob}, VwM V M M' → ∀ o' ∈ M', ∃ o ∈ M, o.b = o'.b ∧ o.room = o'.room ∧ VwL V o.cs o'.cs ∧ (o.b = none → o'.cs = o.cs ∨ o'.cs = [])
  | _, _, .nil, o', h => by cases h
  | _, _, .same t, o', h => by
    cases h with
    | head => exact ⟨_, List.mem_cons_self .., rfl, rfl, VwL.rfl' _, fun _ => .inl rfl⟩
    | tail _ h => obtain ⟨o, a, b⟩ := t.mem o' h; exact ⟨o, List.mem_cons_of_mem _ a, b⟩
  | _, _, .cons hl hn t, o', h => by
    cases h with
    | head => exact ⟨_, List.mem_cons_self .., rfl, rfl, hl, fun e => .inr (hn e)⟩
    | tail _ h => obtain ⟨o, a, b⟩ := t.mem o' h; exact ⟨o, List.mem_cons_of_mem _ a, b⟩
theorem VwM.keys {V : List Ob} : ∀ {M M' : List Ob}, VwM V M M' → M'.filterMap (·.b) = M.filterMap (·.b)
  | _, _, .nil => rfl
  | _, _, .same t => by simp [List.filterMap_cons, t.keys]
  | _, _, .cons _ _ t => by simp [List.filterMap_cons, t.keys]
section
variable {P : Program} {T : List TI} {N : Nat} {ops : Array Oper} {rest : List Oper} {o : Oper} {Q : Exit → St → Prop} {E F : Env} {M : List Ob}
theorem inv_freezeVM {K : Ctx} {G : Gh} {a : Act} {w : World} {V M' : List Ob} {E' : Env} (hi : Inv K N G ⟨E, V ++ M⟩ a w) (hE : VwE V E E') (hMM : VwM V M M') : ∃ G', Inv K N G' ⟨E', M'⟩ a w := by
  classical
  have hok := hi.ok
  have hnd := hok.nd
  rw [List.filterMap_append, List.nodup_append] at hnd
  obtain ⟨ndV, ndM, dis⟩ := hnd
  let G1 : Gh := ⟨fun b => if b ∈ keys V then (G0 w).Z b else G.Z b, G.Y, fun b => G.U b ∨ b ∈ keys V ∧ (G0 w).U b, G.W⟩
  have z1 : ∀ b, b ∈ keys V → G1.Z b = (G0 w).Z b := fun b h => if_pos h
  have z2 : ∀ b, b ∉ keys V → G1.Z b = G.Z b := fun b h => if_neg h
  have hle : G.le G1 := by
    refine ⟨fun b => ?_, fun b ks e => e, fun b h => .inl h, fun b t h => h⟩
    by_cases hb : b ∈ keys V
    · rw [z1 b hb]; exact (g_le_G0 hok).1 b
    · rw [z2 b hb]; exact List.prefix_refl _
  have hat : ∀ b room cs, (⟨some b, room, cs⟩ : Ob) ∈ V → ∃ vs, RepL G cs vs ∧ vs.length ≤ room ∧ At G1 b 0 vs ∧ (cs ≠ [] → G1.U b) := by
    intro b room cs hm
    obtain ⟨us, a1, a2, a3, a4⟩ := own_at hok (List.mem_append_left _ hm)
    refine ⟨us, a1, a2, ?_, fun hne => .inr ⟨mem_keys.2 ⟨_, hm, rfl⟩, a4 hne⟩⟩
    unfold At at a3 ⊢
    rw [z1 b (mem_keys.2 ⟨_, hm, rfl⟩)]; exact a3
  refine ⟨G1, ⟨Gh.le_trans hok.g hle, hok.os, hok.tape, hok.output, hok.size, hok.fr, fun b hb => ?_, fun o' ho' b hb => ?_, fun o' ho' hb => ?_, fun o' ho' b hb => ?_, fun o' ho' b hb => ?_, by rw [hMM.keys]; exact ndM, hok.mz, fun b hb => ?_, hok.wt⟩, hi.sz, hi.df, fun t => ?_⟩
  · by_cases hm : b ∈ keys V
    · rw [z1 b hm] at hb ⊢; exact (ok_init w).fz b hb
    · rw [z2 b hm] at hb ⊢; exact hok.fz b hb
  · obtain ⟨o, ho, e1, e2, e3, _⟩ := hMM.mem o' ho'
    obtain ⟨us, sp, t, a1, a2, a3⟩ := hok.ow o (List.mem_append_right _ ho) b (e1.trans hb)
    exact ⟨us, sp, t, a1, vwgL_rep hle hat _ _ _ e3 a2, by rw [← e2]; exact a3⟩
  · obtain ⟨o, ho, e1, e2, e3, e4⟩ := hMM.mem o' ho'
    obtain ⟨a1, a2⟩ := hok.vn o (List.mem_append_right _ ho) (e1.trans hb)
    refine ⟨?_, by rw [← e2]; exact a2⟩
    rcases e4 (e1.trans hb) with e | e
    · rw [e, a1]
    · exact e
  · obtain ⟨o, ho, e1, e2, e3, _⟩ := hMM.mem o' ho'
    have hn : b ∉ keys V := fun h => dis b h b (List.mem_filterMap.2 ⟨o, ho, e1.trans hb⟩) rfl
    rw [z2 b hn]; exact hok.un o (List.mem_append_right _ ho) b (e1.trans hb)
  · obtain ⟨o, ho, e1, e2, e3, _⟩ := hMM.mem o' ho'
    exact hok.kb o (List.mem_append_right _ ho) b (e1.trans hb)
  · rcases hb with hb | ⟨hb, c, t, h1, h2⟩
    · obtain ⟨h1, h2⟩ := hok.um b hb
      refine ⟨fun e => h1 ?_, h2⟩
      have := hle.1 b
      rw [e] at this
      exact List.prefix_nil.1 this
    · refine ⟨?_, c, t, h1⟩
      rw [z1 b hb]
      simp only [G0, h1]
      exact h2
  · rcases hE.get t with h | h
    · rw [h]; trivial
    · exact vwgL_rep hle hat [_] [_] [_] (.cons h .nil) ⟨_, _, rfl, hi.ev t, rfl⟩ |>.elim fun v ⟨vs, e, h1, h2⟩ => by
        simp only [List.cons.injEq] at e
        rw [e.1]; exact h1
/-- All the objects of V are frozen from now on, in the others' cells too. -/
theorem acode_freezeVM {c : Code} (V M' : List Ob) (E' : Env) (hE : VwE V E E') (hM : VwM V M M') (next : ACode P N c Q ⟨E', M'⟩) : ACode P N c Q ⟨E, V ++ M⟩ :=
  acode_weaken (fun K G a w hi => inv_freezeVM hi hE hM) next
theorem VwL.set {V : List Ob} : ∀ {xs : List A} (i : Nat) {x y : A}, xs[i]? = some x → Vw V x y → VwL V xs (xs.set i y)
  | [], i, x, y, h, _ => by simp at h
  | z :: xs, 0, x, y, h, hv => by simp at h; subst h; exact .cons hv (VwL.rfl' xs)
  | z :: xs, i + 1, x, y, h, hv => .cons (.refl z) (VwL.set i (by simpa using h) hv)
/-- Arguments told with less. -/
theorem acalls_arg {f : FuncId} {xs ys : List A} {R : A → List Ob → Prop} (hv : VwL [] xs ys) (hc : ACalls P f ys M R) : ACalls P f xs M R :=
  fun G w vs hok hl => hc G w vs hok (vwgL_rep G.le_refl (fun _ _ _ h => by cases h) _ _ _ hv hl)
/-- The answer told otherwise: nil slices as empty ones. -/
theorem acalls_res {f : FuncId} {xs : List A} {R R' : A → List Ob → Prop} (hc : ACalls P f xs M R) (hr : ∀ r M', R r M' → ∃ r', Vw [] r r' ∧ R' r' M') : ACalls P f xs M R' :=
  fun G w vs hok hl => (hc G w vs hok hl).mono fun e w' ⟨v, r, M', G', e1, e2, e3, e4⟩ => by
    obtain ⟨r', h1, h2⟩ := hr _ _ e4
    obtain ⟨v', vs', e5, h3, _⟩ := vwgL_rep G'.le_refl (fun _ _ _ h => by cases h) [r] [r'] [v] (.cons h1 .nil) ⟨v, [], rfl, e2, rfl⟩
    simp only [List.cons.injEq] at e5
    exact ⟨v, r', M', G', e1, e5.1 ▸ h3, e3, h2⟩
end
end Go.Proofs.Ytbnhmioijeagiaa.Ab
/- A slice that a field of the front object holds is frozen there. No condition. -/
set_option linter.unusedVariables false
set_option linter.unusedSimpArgs false
namespace Go.Proofs.Ytbnhmioijeagiaa.Ab
attribute [local irreducible] thenA inBlockA ACode AOps put IntKind.wrap

section
variable {P : Program} {N : Nat} {Q : Exit → St → Prop} {E : Env} {M : List Ob}
/-- The second object, a slice that a field of the first one holds, is frozen there (as in Spa7). -/
theorem acode_pubFld {c : Code} (i : Nat) {b room r2 n cap sz : Nat} {ob : Option Nat} {cs ds cs' : List A} (hc : cs[i]? = some (.own ob n cap)) (hr : r2 = cap * sz) (hcs : ds.length = n * sz) (hsz : 0 < sz) (he : cs.set i (.psl n ds) = cs')
    (next : ACode P N c Q ⟨E, ⟨some b, room, cs'⟩ :: M⟩) : ACode P N c Q ⟨E, ⟨some b, room, cs⟩ :: ⟨ob, r2, ds⟩ :: M⟩ := by
  subst he
  refine acode_weaken (st' := ⟨E, ⟨some b, room, cs.set i (.psl n ds)⟩ :: M⟩) (fun K G a w hi => ?_) next
  obtain ⟨G', hle, hok, hb, hn, _⟩ := ok_publish hi.ok (k := 1) rfl
  refine ⟨G', ?_, hi.sz, hi.df, fun s => (hi.ev s).mono hle⟩
  have hok' : Ok K G' (⟨some b, room, cs⟩ :: M) w := hok
  refine hok'.cast (fun o' ho => ?_) (by simpa [List.filterMap_cons] using hok'.nd)
  simp only [List.mem_cons] at ho
  rcases ho with rfl | ho
  · refine .inr ⟨⟨some b, room, cs⟩, List.mem_cons_self .., rfl, rfl, fun vs hv => repL_set_same hv hc (fun v hr' => ?_), fun h => by cases h⟩
    cases ob with
    | none =>
      obtain ⟨hv, rfl, rfl⟩ := hr'
      obtain ⟨rfl, _⟩ := hn rfl
      exact ⟨none, 0, hv, Nat.le_refl _, by simp, [], rfl, .inl rfl⟩
    | some b2 =>
      simp only [Rep] at hr'
      obtain ⟨vs, hl, hat, hle'⟩ := hb b2 rfl
      have hlen := hl.length
      exact ⟨_, cap, hr', Nat.le_of_mul_le_mul_right (show n * sz ≤ cap * sz by omega) hsz, by simp, vs, hl, .inr ⟨b2, 0, rfl, hat⟩⟩
  · exact .inr ⟨o', by simp [ho], rfl, rfl, fun vs hv => hv, fun hb => (hok'.vn o' (by simp [ho]) hb).1⟩
end
end Go.Proofs.Ytbnhmioijeagiaa.Ab
/- Chapter 21: the lister's trees: the walk. No condition. -/
set_option linter.unusedVariables false
set_option linter.unusedSimpArgs false
namespace Go.Proofs.Ytbnhmioijeagiaa.Ab
attribute [local irreducible] thenA inBlockA ACode AOps put IntKind.wrap

abbrev trA (t : Tr) : A := .agg [.int .i64 t.rule, .int .i64 t.tok, .psl t.kids.length (encs trC t.kids)]
/-- Not too many kids anywhere below. -/
inductive Lim (f : Fo) : Nat → Prop
  | mk {i : Nat} (h : ∀ a ∈ altsOf f i, a.kids.length ≤ 1000000) (hs : ∀ k : Nat, Kid f i k → Lim f k) : Lim f i
theorem Lim.len {f : Fo} {i : Nat} (h : Lim f i) {a : Al} (ha : a ∈ altsOf f i) : a.kids.length ≤ 1000000 := by cases h with | mk h _ => exact h a ha
theorem Lim.kid {f : Fo} {i k : Nat} (h : Lim f i) (hk : Kid f i k) : Lim f k := by cases h with | mk _ h => exact h k hk
theorem leaf_calls {k : Int} (hk : rng k) (M : List Ob) : ACalls Try.prog 89 [.int .i64 k] M (fun r M' => r = trA (leafT k) ∧ M' = M) := by
  obtain ⟨h0, h1⟩ := hk
  refine acalls_res (R := fun r M' => r = .agg [.int .i64 (-1), .int .i64 (-1 - k), .nils] ∧ M' = M) ?_ ?_
  · refine acalls_of_code 6 Try.func89 rfl rfl rfl ?_
    repeat (first | refine acode_seq ?_ | refine acode_region ?_)
    refine aops_alloc tok rfl rfl rfl rfl rfl rfl fun ba => ?_
    repeat (first | refine aops_end ?_ | refine aops_a tok rfl (by omega) (by omega) rfl rfl rfl ?_ | refine aops_p tok rfl rfl rfl rfl ?_ | refine aops_stn tok rfl rfl rfl rfl rfl rfl rfl rfl rfl ?_ | refine acode_seq ?_ | refine acode_region ?_)
    refine acode_pubref0 2 rfl ?_
    refine acode_ret ?_
    skip
    exact ⟨_, ⟨rfl, rfl⟩, resOf_pp tok rfl rfl rfl⟩
  · rintro r M' ⟨rfl, rfl⟩
    exact ⟨_, .agg (.cons (.refl _) (.cons (.refl _) (.cons .nils .nil))), rfl, rfl⟩
end Go.Proofs.Ytbnhmioijeagiaa.Ab
/- Package choose: pointers of picks against nil. No condition. -/
set_option linter.unusedVariables false
set_option linter.unusedSimpArgs false
namespace Go.Proofs.Ytbnhmioijeagiaa.Ab
section
variable {P : Program} {T : List TI} {N : Nat} {ops : Array Oper} {o : Oper} {rest : List Oper} {Q : Exit → St → Prop} {E F : Env} {M : List Ob}
def nilB : A → Option Bool
  | .nilp => some true
  | .pp _ => some false
  | .cp _ => some false
  | _ => none
theorem ptr_nil_run {t e : Nat} (h : P.underlying t = some (.pointer e)) (p : Option Addr) (w : World) : (binOp .eql t (.pointer p) (.pointer none)).run P w = .ok (.bool p.isNone) w := by
  have : ∀ d, (Op.equalIn (d + 1) t (.pointer p) (.pointer none)).run P w = .ok p.isNone w := by
    intro d
    rw [Op.equalIn]
    cases p <;> simp [run_und h]
  have h2 := this 9999
  have e' : Op.maxDepth = 9999 + 1 := rfl
  simp only [binOp, Op.equal, e']
  simp [h2]
theorem ptr_nne_run {t e : Nat} (h : P.underlying t = some (.pointer e)) (p : Option Addr) (w : World) : (binOp .neq t (.pointer p) (.pointer none)).run P w = .ok (.bool (!p.isNone)) w := by
  have : ∀ d, (Op.equalIn (d + 1) t (.pointer p) (.pointer none)).run P w = .ok p.isNone w := by
    intro d
    rw [Op.equalIn]
    cases p <;> simp [run_und h]
  have h2 := this 9999
  have e' : Op.maxDepth = 9999 + 1 := rfl
  simp only [binOp, Op.equal, e']
  simp [h2]
theorem nilB_rep {G : Gh} {x : A} {v : Value} {b : Bool} (h : nilB x = some b) (hr : Rep G x v) : ∃ p, v = .pointer p ∧ p.isNone = b := by
  cases x <;> simp [nilB] at h
  · subst h; simp only [Rep] at hr; exact ⟨none, hr, rfl⟩
  · subst h
    obtain ⟨b, off, vs, e, _⟩ := hr
    exact ⟨_, e, rfl⟩
  · subst h
    obtain ⟨b, off, vs, e, _⟩ := hr
    exact ⟨_, e, rfl⟩
theorem aops_pz (hT : TOk P T) {t t' e d : Nat} {x : Operand} {b : Bool} (ho : o.op = .binOp .eql t x (.const (.pointer none)) t') (ht : kindOf T t = some (.ptr e)) (hx : nilB (opA E x) = some b) (hg : guardOn ops o E = some true) (hd : o.dst = some d) (hN : Nat.blt d N = true)
    (next : AOps P N ops rest Q ⟨(d, .bool b) :: E, M⟩) : AOps P N ops (o :: rest) Q ⟨E, M⟩ := by
  refine aops_val hg (by rw [hd]; exact hN) (.bool b) M (fun K G av w hi => ?_) (by rw [hd]; exact next)
  obtain ⟨p, hv, hp⟩ := nilB_rep hx (opA_rep hi x)
  refine ⟨.bool b, w, G, ?_, hi.ok, G.le_refl, rfl⟩
  have e1 : av.eval (.const (.pointer none)) = .pointer none := rfl
  simp only [execOp, ho, hv, e1, Sem.run_bind, eqGuard_run (P := P) (w := w) (op := .eql) (t := t) (x := x) (y := .const (.pointer none)) (u := .pointer p) (v := .pointer none) (.inr (.inr (.inr ⟨_, rfl⟩))), ptr_nil_run (kindOf_ptr hT ht), Result.andThen_ok, hp]
  rfl
theorem aops_pnz (hT : TOk P T) {t t' e d : Nat} {x : Operand} {b : Bool} (ho : o.op = .binOp .neq t x (.const (.pointer none)) t') (ht : kindOf T t = some (.ptr e)) (hx : nilB (opA E x) = some b) (hg : guardOn ops o E = some true) (hd : o.dst = some d) (hN : Nat.blt d N = true)
    (next : AOps P N ops rest Q ⟨(d, .bool (!b)) :: E, M⟩) : AOps P N ops (o :: rest) Q ⟨E, M⟩ := by
  refine aops_val hg (by rw [hd]; exact hN) (.bool (!b)) M (fun K G av w hi => ?_) (by rw [hd]; exact next)
  obtain ⟨p, hv, hp⟩ := nilB_rep hx (opA_rep hi x)
  refine ⟨.bool (!b), w, G, ?_, hi.ok, G.le_refl, rfl⟩
  have e1 : av.eval (.const (.pointer none)) = .pointer none := rfl
  simp only [execOp, ho, hv, e1, Sem.run_bind, eqGuard_run (P := P) (w := w) (op := .neq) (t := t) (x := x) (y := .const (.pointer none)) (u := .pointer p) (v := .pointer none) (.inr (.inr (.inr ⟨_, rfl⟩))), ptr_nne_run (kindOf_ptr hT ht), Result.andThen_ok, hp]
  rfl
theorem seqT_pz (hT : TOk P T) {l : List Oper} {n : Nat} {t t' e d : Nat} {x : Operand} {b : Bool} (ho : o.op = .binOp .eql t x (.const (.pointer none)) t') (ht : kindOf T t = some (.ptr e)) (hx : nilB (opA F x) = some b) (hg : guardOn ops o F = some true) (hd : o.dst = some d) (hN : Nat.blt d N = true)
    (next : SeqT P N ops Q M ((d, .bool b) :: F) n l) : SeqT P N ops Q M F (n + 1) (o :: l) := by
  refine seqT_y (x := .bool b) (fun E hE rest Q next => ?_) hd next
  refine aops_pz hT ho ht (by rw [agree_op hE (by rw [ho]; simp [Op.operands])]; exact hx) ((agree_guard hE).trans hg) hd hN ?_
  rwa [hd] at next
end
end Go.Proofs.Ytbnhmioijeagiaa.Ab
/- Pointers to frozen variables whose block bears no mark: they are held against each other. No condition. -/
set_option linter.unusedVariables false
set_option linter.unusedSimpArgs false
namespace Go.Proofs.Ytbnhmioijeagiaa.Ab
section
variable {P : Program} {T : List TI} {N : Nat} {ops : Array Oper} {rest : List Oper} {o : Oper} {Q : Exit → St → Prop} {E F : Env} {M : List Ob}
/-- A struct of one's own is frozen, and it is kept that its block bears no mark. -/
theorem inv_publish_cp {K : Ctx} {G : Gh} {a : Act} {w : World} (hi : Inv K N G ⟨E, M⟩ a w) {k t : Nat} {b room : Nat} {cs : List A} (h : get E t = .ref b 0) (hM : M[k]? = some ⟨some b, room, cs⟩) (hne : cs ≠ []) :
    ∃ G', Inv K N G' ⟨(t, .cp cs) :: E, M.eraseIdx k⟩ a w := by
  obtain ⟨G', hle, hok, hb, hn, hU⟩ := ok_publish hi.ok hM
  obtain ⟨vs, hl, hat, hlen⟩ := hb b rfl
  obtain ⟨us, sp, t', hh, _⟩ := hi.ok.ow _ (List.mem_of_getElem? hM) b rfl
  let G2 : Gh := ⟨G'.Z, G'.Y, fun j => j = b ∨ G'.U j, G'.W⟩
  have hle2 : G'.le G2 := ⟨fun _ => List.prefix_refl _, fun _ _ e => e, fun _ e => .inr e, fun _ _ e => e⟩
  have hzb : G'.Z b ≠ [] := by
    intro e
    obtain ⟨u, hu⟩ := hat
    rw [e] at hu
    simp at hu
    have := hl.length
    rw [hu.1] at this
    exact hne (List.eq_nil_of_length_eq_zero (by simpa using this.symm))
  refine ⟨G2, ⟨Gh.le_trans hok.g hle2, hok.os, hok.tape, hok.output, hok.size, hok.fr, hok.fz, fun o ho b' hb' => ?_, hok.vn, hok.un, hok.kb, hok.nd, hok.mz, fun j hj => ?_, hok.wt⟩, hi.sz, hi.df, fun s => ?_⟩
  · obtain ⟨us, sp, t, a1, a2, a3⟩ := hok.ow o ho b' hb'
    exact ⟨us, sp, t, a1, a2.mono hle2, a3⟩
  · rcases hj with rfl | hj
    · exact ⟨hzb, _, t', hh⟩
    · exact hok.um j hj
  · simp only [get]
    by_cases e : t = s
    · subst e
      have hev := hi.ev t
      simp only at hev
      rw [h] at hev
      simp only [Rep] at hev
      have : Nat.beq t t = true := by simp
      rw [this, cond_true]
      exact ⟨b, 0, vs, hev, hat, RepL.mono hle2 _ _ hl, .inl rfl⟩
    · have hb : Nat.beq t s = false := by
        cases hb : Nat.beq t s with
        | false => rfl
        | true => exact absurd (Nat.eq_of_beq_eq_true hb) e
      rw [hb]
      exact (hi.ev s).mono (Gh.le_trans hle hle2)
theorem acode_pubcp0 {c : Code} (t : Nat) {b room : Nat} {cs : List A} (h : get E t = .ref b 0) (hne : cs ≠ []) (next : ACode P N c Q ⟨(t, .cp cs) :: E, M⟩) : ACode P N c Q ⟨E, ⟨some b, room, cs⟩ :: M⟩ :=
  acode_weaken (fun K G a w hi => inv_publish_cp hi h (k := 0) rfl hne) next
/-- The same cells may lie at both. -/
def SameC (xs ys : List A) : Prop := ∃ (G : Gh) (vs : List Value), RepL G xs vs ∧ RepL G ys vs
/-- Two such pointers are held against each other: where they are one, the same cells are told of. -/
theorem peq_run {K : Ctx} {G : Gh} {w : World} {t e : Nat} {ei : TypeInfo} {xs ys : List A} {u v : Value} (hok : Ok K G M w) (hu : P.underlying t = some (.pointer e)) (he : P.info? e = some ei) (hsz : ei.size ≠ 0) (hl : xs.length = ys.length) (hx : Rep G (.cp xs) u) (hy : Rep G (.cp ys) v) :
    ∃ b, (binOp .eql t u v).run P w = .ok (.bool b) w ∧ (b = true → SameC xs ys) := by
  simp only [Rep] at hx hy
  obtain ⟨b, off, vs, rfl, ha, h1, h2⟩ := hx
  obtain ⟨c, off', vs', rfl, ha', h1', h2'⟩ := hy
  by_cases hne : (⟨b, off, none⟩ : Addr) = ⟨c, off', none⟩
  · simp only [Addr.mk.injEq, and_true] at hne
    obtain ⟨rfl, rfl⟩ := hne
    refine ⟨true, run_eql_ptr_same w _ hu he, fun _ => ⟨G, vs, h1, ?_⟩⟩
    have : vs = vs' := by
      have e1 := h1.length
      have e2 := h1'.length
      exact List.IsPrefix.eq_of_length (List.prefix_of_prefix_length_le ha ha' (by omega)) (by omega)
    rw [this]; exact h1'
  · obtain ⟨_, c1, t1, e1⟩ := hok.um b h2
    obtain ⟨_, c2, t2, e2⟩ := hok.um c h2'
    exact ⟨false, run_eql_ptr_other w hu he hsz hne e1 e2, fun h => by cases h⟩
theorem aops_peq (hT : TOk P T) {t t' e d : Nat} {ei : TI} {x y : Operand} {xs ys : List A} (ho : o.op = .binOp .eql t x y t') (ht : kindOf T t = some (.ptr e)) (he : known T e = some ei) (hsz : Nat.blt 0 ei.size = true) (hx : opA E x = .cp xs) (hy : opA E y = .cp ys) (hl : xs.length = ys.length)
    (hg : guardOn ops o E = some true) (hd : o.dst = some d) (hN : Nat.blt d N = true) (next : ∀ b, (b = true → SameC xs ys) → AOps P N ops rest Q ⟨(d, .bool b) :: E, M⟩) : AOps P N ops (o :: rest) Q ⟨E, M⟩ := by
  refine aops_rel hg (by rw [hd]; exact hN) (fun y L => ∃ b, y = .bool b ∧ (b = true → SameC xs ys) ∧ L = M) (fun K G av w hi => ?_) ?_
  · have hrx := opA_rep hi x
    have hry := opA_rep hi y
    rw [hx] at hrx; rw [hy] at hry
    obtain ⟨k1, k2⟩ := known_spec he
    obtain ⟨info, z, hi1, hi2, _⟩ := (hT.get k1 k2).info
    have hsz : 0 < ei.size := by simpa using hsz
    obtain ⟨b, hrun, hb⟩ := peq_run hi.ok (kindOf_ptr hT ht) hi1 (by omega) hl hrx hry
    refine ⟨.bool b, w, G, .bool b, M, ?_, hi.ok, G.le_refl, rfl, b, rfl, hb, rfl⟩
    obtain ⟨b1, off, vs, e1, _⟩ := hrx
    rw [e1] at hrun
    simp only [execOp, ho, e1, Sem.run_bind, eqGuard_run (P := P) (w := w) (op := .eql) (t := t) (x := x) (y := y) (u := .pointer (some ⟨b1, off, none⟩)) (v := av.eval y) (.inr (.inr (.inr ⟨_, rfl⟩))), hrun, Result.andThen_ok]
    rfl
  · rintro y L ⟨b, rfl, hb, rfl⟩
    rw [hd]
    exact next b hb
end
end Go.Proofs.Ytbnhmioijeagiaa.Ab

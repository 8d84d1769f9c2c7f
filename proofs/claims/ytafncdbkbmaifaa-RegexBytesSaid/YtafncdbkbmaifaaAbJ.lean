/- What a good argument is, told by its parts. No condition. -/
import Derived.Test.YtafncdbkbmaifaaAbF
import Derived.Test.YtafncdbkbmaifaaAbI
set_option linter.unusedVariables false
set_option linter.unusedSimpArgs false
namespace Go.Proofs.Ytafncdbkbmaifaa.Ab
section
variable {T : List TI}
def GoodF (T : List TI) (f : Nat) : List (Nat × Nat) → List A → Prop
  | [], ys => ys = []
  | p :: fs, ys => ∃ y ys', ys = y :: ys' ∧ Good T f p.2 y ∧ GoodF T f fs ys'
theorem goodF_of {f : Nat} : ∀ {fs : List (Nat × Nat)} {css : List (List A)}, css.length = fs.length → (∀ (i : Nat) (c : List A) (p : Nat × Nat), css[i]? = some c → fs[i]? = some p → ∃ y, Good T f p.2 y ∧ y.cs = c) → ∃ ys, GoodF T f fs ys ∧ css = ys.map A.cs
  | [], css, hl, _ => by
    obtain rfl := List.eq_nil_of_length_eq_zero (by simpa using hl)
    exact ⟨[], rfl, rfl⟩
  | p :: fs, [], hl, _ => by simp at hl
  | p :: fs, c :: css, hl, h => by
    obtain ⟨y, g, rfl⟩ := h 0 c p rfl rfl
    obtain ⟨ys, g2, rfl⟩ := goodF_of (fs := fs) (css := css) (by simpa using hl) (fun i c p h1 h2 => h (i + 1) c p (by simpa using h1) (by simpa using h2))
    exact ⟨y :: ys, ⟨y, ys, rfl, g, g2⟩, rfl⟩
theorem good_struct {f t : Nat} {x : A} {fs : List (Nat × Nat)} (hk : kindOf T t = some (.struct fs)) (h : Good T f t x) : ∃ (f' : Nat) (ys : List A), x = .agg (ys.map A.cs).flatten ∧ GoodF T f' fs ys := by
  cases f with
  | zero => exact h.elim
  | succ f =>
    simp only [Good, hk] at h
    obtain ⟨css, rfl, hl, hc⟩ := h
    obtain ⟨ys, g, rfl⟩ := goodF_of hl hc
    exact ⟨f, ys, rfl, g⟩
theorem good_int {f t : Nat} {x : A} {k : IntKind} (hk : kindOf T t = some (.int k)) (h : Good T f t x) : ∃ n, x = .int k n ∧ (Lit.int k n).wf = true := by
  cases f with
  | zero => exact h.elim
  | succ f => simpa only [Good, hk] using h
theorem good_bool {f t : Nat} {x : A} (hk : kindOf T t = some .bool) (h : Good T f t x) : ∃ b, x = .bool b := by
  cases f with
  | zero => exact h.elim
  | succ f => simpa only [Good, hk] using h
theorem good_str {f t : Nat} {x : A} (hk : kindOf T t = some .string) (h : Good T f t x) : ∃ s, x = .str s ∧ s.size ≤ maxLen := by
  cases f with
  | zero => exact h.elim
  | succ f => simpa only [Good, hk] using h
theorem wf_i64 {n : Int} (h : (Lit.int .i64 n).wf = true) : -9223372036854775808 ≤ n ∧ n ≤ 9223372036854775807 := by
  simp only [Lit.wf, Bool.and_eq_true, decide_eq_true_eq] at h
  exact h
/-- A slice, by its elements. -/
theorem good_slice {f t e : Nat} {x : A} (hk : kindOf T t = some (.slice e)) (h : Good T f t x) : ∃ (f' : Nat) (ys : List A), x = .psl ys.length (ys.map A.cs).flatten ∧ ys.length ≤ maxLen ∧ ∀ y ∈ ys, Good T f' e y := by
  cases f with
  | zero => exact h.elim
  | succ f =>
    simp only [Good, hk] at h
    obtain ⟨css, rfl, hl, hc⟩ := h
    have key : ∀ css : List (List A), (∀ c ∈ css, ∃ y, Good T f e y ∧ y.cs = c) → ∃ ys : List A, css = ys.map A.cs ∧ ∀ y ∈ ys, Good T f e y := by
      intro css
      induction css with
      | nil => intro _; exact ⟨[], rfl, by simp⟩
      | cons c css ih =>
        intro h
        obtain ⟨y, g, rfl⟩ := h c (by simp)
        obtain ⟨ys, rfl, g2⟩ := ih (fun c hc => h c (by simp [hc]))
        exact ⟨y :: ys, rfl, fun z hz => (List.mem_cons.1 hz).elim (fun e => e ▸ g) (g2 z)⟩
    obtain ⟨ys, rfl, g⟩ := key css hc
    exact ⟨f, ys, by simp, by simpa using hl.1, g⟩
/-- The same, and how many bytes its elements take. -/
theorem good_sliceS {f t e : Nat} {ei : TI} {x : A} (hk : kindOf T t = some (.slice e)) (he : known T e = some ei) (h : Good T f t x) : ∃ n cs, x = .psl n cs ∧ n * ei.bytes ≤ reachBytes := by
  cases f with
  | zero => exact h.elim
  | succ f =>
    simp only [Good, hk] at h
    obtain ⟨css, rfl, hl, hc⟩ := h
    exact ⟨_, _, rfl, hl.2 ei he⟩
theorem good_bytes {f t e : Nat} {x : A} (hk : kindOf T t = some (.slice e)) (he : kindOf T e = some (.int .u8)) (h : Good T f t x) : ∃ xs : List Int, x = .psl xs.length (u8s xs) ∧ xs.length ≤ maxLen ∧ ∀ n ∈ xs, (Lit.int .u8 n).wf = true := by
  obtain ⟨f', ys, rfl, hl, hg⟩ := good_slice hk h
  have key : ∀ ys : List A, (∀ y ∈ ys, Good T f' e y) → ∃ xs : List Int, ys = u8s xs ∧ ∀ n ∈ xs, (Lit.int .u8 n).wf = true := by
    intro ys
    induction ys with
    | nil => intro _; exact ⟨[], rfl, by simp⟩
    | cons y ys ih =>
      intro h
      obtain ⟨n, rfl, hn⟩ := good_int he (h y (by simp))
      obtain ⟨xs, rfl, hx⟩ := ih (fun y hy => h y (by simp [hy]))
      exact ⟨n :: xs, rfl, fun m hm => (List.mem_cons.1 hm).elim (fun e => e ▸ hn) (hx m)⟩
  obtain ⟨xs, rfl, hx⟩ := key ys hg
  have e1 : ((u8s xs).map A.cs).flatten = u8s xs := by
    clear hl hg hx h
    induction xs with
    | nil => rfl
    | cons n xs ih => simp only [u8s, List.map_cons, List.flatten_cons] at ih ⊢; rw [ih]; rfl
  have e2 : (u8s xs).length = xs.length := by simp [u8s]
  exact ⟨xs, by rw [e1, e2], by omega, hx⟩
theorem u8s_at {xs : List Int} {j : Int} {x : Int} (h : xs[j.toNat]? = some x) : [A.int .u8 x] <+: (u8s xs).drop (j.toNat * 1) := by
  rw [Nat.mul_one]
  have hlt : j.toNat < xs.length := (List.getElem?_eq_some_iff.1 h).1
  rw [List.drop_eq_getElem_cons (by simpa [u8s] using hlt)]
  have h2 : (u8s xs)[j.toNat]? = some (A.int .u8 x) := by simp [u8s, h]
  rw [List.getElem?_eq_some_iff] at h2
  obtain ⟨h3, h4⟩ := h2
  rw [h4]
  exact ⟨(u8s xs).drop (j.toNat + 1), rfl⟩

theorem all_map {α : Type} {f : α → A} : ∀ {ys : List A}, (∀ y ∈ ys, ∃ r, y = f r) → ∃ rs : List α, ys = rs.map f
  | [], _ => ⟨[], rfl⟩
  | y :: ys, h => by
    obtain ⟨r, rfl⟩ := h y (by simp)
    obtain ⟨rs, rfl⟩ := all_map (f := f) (ys := ys) (fun y hy => h y (by simp [hy]))
    exact ⟨r :: rs, rfl⟩
theorem cells_one {α : Type} {f : α → A} (hf : ∀ r, (f r).cs = [f r]) : ∀ rs : List α, ((rs.map f).map A.cs).flatten = rs.map f
  | [] => rfl
  | r :: rs => by simp only [List.map_cons, List.flatten_cons, hf, cells_one hf rs]; rfl
theorem good_list {α : Type} {g : α → A} {f t e : Nat} {x : A} (hk : kindOf T t = some (.slice e)) (hg : ∀ f y, Good T f e y → ∃ r, y = g r) (h1 : ∀ r, (g r).cs = [g r]) (h : Good T f t x) : ∃ l : List α, x = .psl l.length (l.map g) ∧ l.length ≤ maxLen := by
  obtain ⟨f', ys, rfl, hl, hh⟩ := good_slice hk h
  obtain ⟨rs, rfl⟩ := all_map (f := g) (fun y hy => hg f' y (hh y hy))
  exact ⟨rs, by rw [cells_one h1, List.length_map], by simpa using hl⟩
theorem good_ints {f t e : Nat} {x : A} {k : IntKind} (hk : kindOf T t = some (.slice e)) (he : kindOf T e = some (.int k)) (h : Good T f t x) : ∃ l : List Int, x = .psl l.length (l.map (A.int k)) ∧ l.length ≤ maxLen :=
  good_list hk (fun f y hy => by obtain ⟨n, rfl, _⟩ := good_int he hy; exact ⟨n, rfl⟩) (fun _ => rfl) h
theorem all_map' {α : Type} {f : α → A} {p : α → Prop} : ∀ {ys : List A}, (∀ y ∈ ys, ∃ r, y = f r ∧ p r) → ∃ rs : List α, ys = rs.map f ∧ ∀ r ∈ rs, p r
  | [], _ => ⟨[], rfl, by simp⟩
  | y :: ys, h => by
    obtain ⟨r, rfl, hr⟩ := h y (by simp)
    obtain ⟨rs, rfl, hrs⟩ := all_map' (f := f) (p := p) (ys := ys) (fun y hy => h y (by simp [hy]))
    exact ⟨r :: rs, rfl, fun s hs => (List.mem_cons.1 hs).elim (fun e => e ▸ hr) (hrs s)⟩
/-- A slice whose elements are told by a function of some data. -/
theorem good_encs {α : Type} {g : α → A} {c : α → List A} {p : α → Prop} {f t e : Nat} {x : A} (hk : kindOf T t = some (.slice e)) (hg : ∀ f y, Good T f e y → ∃ r, y = g r ∧ p r) (h1 : ∀ r, (g r).cs = c r) (h : Good T f t x) : ∃ l : List α, x = .psl l.length (encs c l) ∧ l.length ≤ maxLen ∧ ∀ r ∈ l, p r := by
  obtain ⟨f', ys, rfl, hl, hh⟩ := good_slice hk h
  obtain ⟨rs, rfl, hp⟩ := all_map' (f := g) (p := p) (fun y hy => hg f' y (hh y hy))
  refine ⟨rs, ?_, by simpa using hl, hp⟩
  rw [List.length_map, List.map_map]
  congr 1
  clear hl hh hp h
  induction rs with
  | nil => rfl
  | cons r rs ih => simp only [encs, List.map_cons, List.flatten_cons, List.flatMap_cons, Function.comp, h1] at ih ⊢; rw [ih]
theorem good_ints' {f t e : Nat} {x : A} {k : IntKind} (hk : kindOf T t = some (.slice e)) (he : kindOf T e = some (.int k)) (h : Good T f t x) : ∃ l : List Int, x = .psl l.length (l.map (A.int k)) ∧ l.length ≤ maxLen ∧ ∀ n ∈ l, (Lit.int k n).wf = true := by
  obtain ⟨l, e1, e2, e3⟩ := good_encs (g := A.int k) (c := fun n => [A.int k n]) (p := fun n => (Lit.int k n).wf = true) hk (fun f y hy => good_int he hy) (fun _ => rfl) h
  refine ⟨l, ?_, e2, e3⟩
  rw [e1]
  congr 1
  clear e1 e2 e3
  induction l with
  | nil => rfl
  | cons n l ih => simp only [encs, List.map_cons, List.flatMap_cons] at ih ⊢; rw [ih]; rfl
end
section
variable {P : Program} {T : List TI} {N : Nat} {ops : Array Oper} {rest : List Oper} {o : Oper} {Q : Exit → St → Prop} {E F : Env} {M : List Ob}
/-! ### nil slices, told as such or as empty ones -/
mutual
def soft : A → A
  | .nils => .psl 0 []
  | .agg cs => .agg (softL cs)
  | x => x
def softL : List A → List A
  | [] => []
  | x :: xs => soft x :: softL xs
end
mutual
theorem soft_rep {G : Gh} : ∀ (x : A) (v : Value), Rep G x v → Rep G (soft x) v
  | .nils, v, h => by rw [soft]; exact nils_psl h
  | .agg cs, v, h => by
    rw [soft]
    obtain ⟨vs, e, hl⟩ := h
    exact ⟨vs, e, softL_rep cs vs hl⟩
  | .any, _, h | .bool _, _, h | .int _ _, _, h | .str _, _, h | .nilp, _, h | .nilf, _, h | .pp _, _, h | .cp _, _, h | .tref _ _, _, h | .town _ _ _ _, _, h | .ref _ _, _, h | .psl _ _, _, h | .own _ _ _, _, h | .fn _ _, _, h | .tup _, _, h | .mp _, _, h | .mr _, _, h => by simp only [soft]; exact h
theorem softL_rep {G : Gh} : ∀ (xs : List A) (vs : List Value), RepL G xs vs → RepL G (softL xs) vs
  | [], vs, h => by rw [softL]; exact h
  | x :: xs, vs, h => by
    rw [softL]
    obtain ⟨v, vs', e, h1, h2⟩ := h
    exact ⟨v, vs', e, soft_rep x v h1, softL_rep xs vs' h2⟩
end
theorem aops_calls {d : Nat} {g : Operand} {args : Array Operand} {tys : Array TypeId} {f : FuncId} {cap as : List A} {fn : Func} {x : A} (hf : P.funcs[f]? = some fn) (ho : o.op = .call { callee := .value g, args, argTypes := tys }) (hgv : opA E g = .fn f cap)
    (hfn : callable fn = true) (has : softL (args.toList.map (opA E) ++ cap) = as) (hc : ACalls P f as M (fun r M' => r = x ∧ M' = M)) (hg : guardOn ops o E = some true) (hd : o.dst = some d) (hN : Nat.blt d N = true)
    (next : AOps P N ops rest Q ⟨(d, x) :: E, M⟩) : AOps P N ops (o :: rest) Q ⟨E, M⟩ := by
  refine aops_call_as as hf ho hgv hfn rfl (fun G vs h => by rw [← has]; exact softL_rep _ _ h) hc hg (by rw [hd]; exact hN) ?_
  rintro y M' ⟨rfl, rfl⟩
  rw [hd]; exact next
/-- make([]T, n), at the front. -/
theorem aops_mk (hT : TOk P T) {t e d : Nat} {ei : TI} {l c : Operand} {kl kc : IntKind} {x : Int} (n : Nat) (ho : o.op = .makeSlice t l c) (hs : sliceOf T t = some (e, ei)) (hl : opA E l = .int kl x) (hc : opA E c = .int kc x) (hx : x = n)
    (hz : Nat.beq ei.zero.length ei.size = true) (hb : n * ei.bytes ≤ 281474976710656) (hn : n ≤ 140737488355328) (hg : guardOn ops o E = some true) (hd : o.dst = some d) (hN : Nat.blt d N = true)
    (next : ∀ b, AOps P N ops rest Q ⟨(d, .own (some b) n n) :: E, ⟨some b, n * ei.size, zerosA (ei.zero.map ofZ) n⟩ :: M⟩) : AOps P N ops (o :: rest) Q ⟨E, M⟩ := by
  refine aops_make hT n ho hs hl hc hx hz hb hn hg (by rw [hd]; exact hN) fun b => aops_front ?_
  rw [hd]; exact next b
theorem zerosA_one (x : A) (n : Nat) : zerosA [x] n = List.replicate n x := by
  simp only [zerosA]
  induction n with
  | zero => rfl
  | succ n ih => rw [List.replicate_succ, List.flatten_cons, ih]; rfl
/-- A store into the object at the front, its cells told. -/
theorem aops_sto (hT : TOk P T) {t : Nat} {p x : Operand} {b off : Nat} {i : TI} {y : A} {room : Nat} {cs : List A} (cs' : List A) (ho : o.op = .store t p x) (hp : opA E p = .ref b off) (hx : opA E x = y) (hk : known T t = some i)
    (hy : (Nat.beq y.cs.length i.size && cellsOk y) = true) (hoff : off + i.size ≤ cs.length) (hcs : cs.take off ++ (y.cs ++ cs.drop (off + i.size)) = cs')
    (hg : guardOn ops o E = some true) (hd : o.dst = none) (next : AOps P N ops rest Q ⟨E, ⟨some b, room, cs'⟩ :: M⟩) : AOps P N ops (o :: rest) Q ⟨E, ⟨some b, room, cs⟩ :: M⟩ := by
  refine aops_store hT 0 ho hp hx hk rfl hy hoff cs' hcs hg (by rw [hd]; rfl) ?_
  rw [hd]; exact next
theorem aops_ixo (hT : TOk P T) {t e d : Nat} {ei : TI} {x ix : Operand} {b n cap : Nat} {k : IntKind} {i : Int} (ho : o.op = .indexAddr t x ix) (hs : sliceOf T t = some (e, ei)) (hx : opA E x = .own (some b) n cap) (hix : opA E ix = .int k i)
    (h0 : 0 ≤ i) (h1 : i < n) (hg : guardOn ops o E = some true) (hd : o.dst = some d) (hN : Nat.blt d N = true) (next : AOps P N ops rest Q ⟨(d, .ref b (i.toNat * ei.size)) :: E, M⟩) : AOps P N ops (o :: rest) Q ⟨E, M⟩ := by
  refine aops_index_own hT ho hs hx hix h0 h1 hg (by rw [hd]; exact hN) ?_
  rw [hd]; exact next
end
end Go.Proofs.Ytafncdbkbmaifaa.Ab

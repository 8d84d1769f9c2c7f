/- The plain operations over abstract values: what each yields, and that it does. Condition: the table of types agrees with the program's. -/
import Derived.Test.YtafncdbkbmaifaaAb1
set_option linter.unusedVariables false
set_option linter.unusedSimpArgs false
namespace Go.Proofs.Ytafncdbkbmaifaa.Ab

inductive TK where
  | int (k : IntKind) | bool | string
  | slice (e : Nat) | ptr (e : Nat) | struct (fs : List (Nat × Nat)) | array (n e : Nat)
  | func | map (k e : Nat) | other
  deriving DecidableEq, Inhabited
structure TI where
  k : TK
  size : Nat
  bytes : Nat
  zero : List Value
  deriving Inhabited

def tkOf : TypeDesc → TK
  | .int k => .int k
  | .bool => .bool
  | .string => .string
  | .slice e => .slice e
  | .pointer e => .ptr e
  | .struct fs => .struct (fs.toList.map fun f => (f.offset, f.type))
  | .array n e => .array n e
  | .func .. => .func
  | .map k e => .map k e
  | _ => .other
def TK.isAgg : TK → Bool
  | .struct _ | .array _ _ => true
  | _ => false

def veq : Value → Value → Bool
  | .int k n, .int k' n' => decide (k = k') && decide (n = n')
  | .bool b, .bool b' => b == b'
  | .string s, .string s' => decide (s.data = s'.data)
  | .slice none 0 0, .slice none 0 0 => true
  | .pointer none, .pointer none => true
  | .nilFunc, .nilFunc => true
  | .map none, .map none => true
  | _, _ => false
theorem veq_spec {u v : Value} (h : veq u v = true) : u = v := by
  unfold veq at h
  split at h <;> first | rfl | (simp at h; done) | skip
  · simp at h; rw [h.1, h.2]
  · simp at h; rw [h]
  · rename_i s s'
    simp at h
    obtain ⟨d⟩ := s
    obtain ⟨d'⟩ := s'
    simp at h
    rw [h]
def veqs : List Value → List Value → Bool
  | [], [] => true
  | u :: us, v :: vs => veq u v && veqs us vs
  | _, _ => false
theorem veqs_spec : ∀ {us vs : List Value}, veqs us vs = true → us = vs
  | [], [], _ => rfl
  | u :: us, v :: vs, h => by
    simp [veqs] at h
    rw [veq_spec h.1, veqs_spec h.2]
  | [], _ :: _, h => by simp [veqs] at h
  | _ :: _, [], h => by simp [veqs] at h

def tgood (P : Program) (t : Nat) (i : TI) : Bool :=
  match P.info? t with
  | none => false
  | some info =>
    (match P.underlying t with | some d => decide (tkOf d = i.k) | none => false) && Nat.beq info.size i.size && Nat.beq info.bytes i.bytes &&
    (match info.zero with | some z => veqs z.cells.toList i.zero && (match z with | .agg _ => i.k.isAgg | _ => !i.k.isAgg) | none => false)
def tgoods (P : Program) : Nat → List TI → Bool
  | _, [] => true
  | t, i :: r => (match i.k with | .other => true | _ => tgood P t i) && tgoods P (t + 1) r

/-- The table says what the program's says (where it says anything). -/
structure TOk (P : Program) (T : List TI) : Prop where
  out : ∀ t i, T[t]? = some i → i.k ≠ .other → tgood P t i = true
theorem tok_of {P : Program} {T : List TI} (h : tgoods P 0 T = true) : TOk P T := by
  have : ∀ (T : List TI) (s t : Nat) (i : TI), tgoods P s T = true → T[t]? = some i → i.k ≠ .other → tgood P (s + t) i = true := by
    intro T
    induction T with
    | nil => intro s t i _ ht; simp at ht
    | cons x T ih =>
      intro s t i h ht hk
      simp [tgoods] at h
      cases t with
      | zero =>
        simp at ht
        subst ht
        have h1 := h.1
        split at h1
        · rename_i e; exact absurd e hk
        · simpa using h1
      | succ t =>
        simp at ht
        have := ih (s + 1) t i h.2 ht hk
        rwa [show s + 1 + t = s + (t + 1) from by omega] at this
  exact ⟨fun t i ht hk => by have := this T 0 t i h ht hk; simpa using this⟩

structure TG (P : Program) (t : Nat) (i : TI) : Prop where
  und : ∃ d, P.underlying t = some d ∧ tkOf d = i.k
  info : ∃ info z, P.info? t = some info ∧ info.size = i.size ∧ info.bytes = i.bytes ∧ info.zero = some z ∧ z.cells.toList = i.zero ∧ (i.k.isAgg = true → z = .agg i.zero.toArray) ∧ (i.k.isAgg = false → ∃ v, i.zero = [v] ∧ z = v)
theorem TOk.get {P : Program} {T : List TI} (h : TOk P T) {t : Nat} {i : TI} (ht : T[t]? = some i) (hk : i.k ≠ .other) : TG P t i := by
  have := h.out t i ht hk
  unfold tgood at this
  split at this
  · simp at this
  · rename_i info hinfo
    simp only [Bool.and_eq_true] at this
    obtain ⟨⟨⟨h1, h2⟩, h3⟩, h4⟩ := this
    refine ⟨?_, ?_⟩
    · split at h1
      · rename_i d hd; exact ⟨d, hd, by simpa using h1⟩
      · simp at h1
    · split at h4
      · rename_i z hz
        simp only [Bool.and_eq_true] at h4
        have hc := veqs_spec h4.1
        refine ⟨info, z, hinfo, Nat.eq_of_beq_eq_true h2, Nat.eq_of_beq_eq_true h3, hz, hc, ?_, ?_⟩
        · intro ha
          have h5 := h4.2
          split at h5
          · rename_i cs; rw [← hc]; simp [Value.cells]
          · simp [ha] at h5
        · intro ha
          have h5 := h4.2
          split at h5
          · rename_i cs; simp [ha] at h5
          · rename_i hne
            refine ⟨z, ?_, rfl⟩
            rw [← hc]
            cases z <;> first | rfl | (exact absurd rfl (hne _))
      · simp at h4

/-! ### Constants and operands -/
def ofZ : Value → A
  | .int k n => .int k n
  | .bool b => .bool b
  | .string s => .str s
  | .slice none 0 0 => .nils
  | .pointer none => .nilp
  | .nilFunc => .nilf
  | _ => .any
def ofC : Value → A
  | .agg cs => .agg (cs.toList.map ofZ)
  | v => ofZ v
theorem ofZ_rep (G : Gh) (v : Value) : Rep G (ofZ v) v := by
  unfold ofZ
  split <;> simp [Rep]
theorem ofZ_repL (G : Gh) : ∀ vs : List Value, RepL G (vs.map ofZ) vs
  | [] => rfl
  | v :: vs => .cons (ofZ_rep G v) (ofZ_repL G vs)
theorem ofC_rep (G : Gh) (v : Value) : Rep G (ofC v) v := by
  unfold ofC
  split
  · rename_i cs
    exact ⟨cs.toList, by simp, ofZ_repL G _⟩
  · exact ofZ_rep G v
def opA (E : Env) : Operand → A
  | .tmp t => get E t
  | .const v => ofC v
  | .func f => .fn f []
  | .global _ => .any
theorem opA_rep {K : Ctx} {N : Nat} {G : Gh} {E : Env} {M : List Ob} {a : Act} {w : World} (hi : Inv K N G ⟨E, M⟩ a w) (x : Operand) : Rep G (opA E x) (a.eval x) := by
  cases x with
  | tmp t => exact hi.ev t
  | const v => exact ofC_rep G v
  | func f => exact ⟨[], rfl, rfl⟩
  | global g => trivial

/-- The cells of a value. -/
def A.cs : A → List A
  | .agg cs => cs
  | x => [x]
def cellsOk : A → Bool
  | .agg cs => cs.all A.isCell
  | x => x.isCell
theorem cs_rep {G : Gh} {x : A} {v : Value} (h : Rep G x v) (hx : cellsOk x = true) : RepL G x.cs v.cells.toList ∧ ∀ u ∈ v.cells.toList, u.oneCell' = true := by
  have all : ∀ (cs : List A) (vs : List Value), RepL G cs vs → cs.all A.isCell = true → ∀ u ∈ vs, u.oneCell' = true := by
    intro cs
    induction cs with
    | nil => intro vs h _ u hu; simp [RepL] at h; subst h; simp at hu
    | cons c cs ih =>
      intro vs h hc u hu
      obtain ⟨v, vs', rfl, h1, h2⟩ := h
      simp at hc
      rcases List.mem_cons.1 hu with rfl | hu
      · exact (h1.oneCell hc.1).2
      · exact ih vs' h2 (by simpa using hc.2) u hu
  cases x with
  | agg cs =>
    obtain ⟨vs, rfl, hl⟩ := h
    simp only [Value.cells]
    exact ⟨hl, all cs vs hl hx⟩
  | any => simp [cellsOk, A.isCell] at hx
  | tup cs => simp [cellsOk, A.isCell] at hx
  | _ =>
    have := Rep.oneCell h (by first | rfl | exact hx)
    rw [this.1]
    refine ⟨.cons h .nil, ?_⟩
    simp [this.2]

/-! ### What a plain operation yields -/
def arithA (op : BinOp) (k : IntKind) (x y : Int) : Option A :=
  match op with
  | .add => some (.int k (k.wrap (x + y)))
  | .sub => some (.int k (k.wrap (x - y)))
  | .mul => some (.int k (k.wrap (x * y)))
  | .eql => some (.bool (x == y))
  | .neq => some (.bool (x != y))
  | .lss => some (.bool (x < y))
  | .leq => some (.bool (x ≤ y))
  | .gtr => some (.bool (x > y))
  | .geq => some (.bool (x ≥ y))
  | .and => some (.int k (k.wrap (BitVec.ofInt k.bits x &&& BitVec.ofInt k.bits y).toNat))
  | .or => some (.int k (k.wrap (BitVec.ofInt k.bits x ||| BitVec.ofInt k.bits y).toNat))
  | .xor => some (.int k (k.wrap (BitVec.ofInt k.bits x ^^^ BitVec.ofInt k.bits y).toNat))
  | _ => none
def binA (op : BinOp) (x y : A) : Option A :=
  match x, y with
  | .int k a, .int k' b => if k = k' then arithA op k a b else none
  | .str a, .str b => match op with
    | .eql => some (.bool (a.toList == b.toList))
    | .neq => some (.bool !(a.toList == b.toList))
    | _ => none
  | _, _ => none

def fillA (place : Nat → Option (Nat × Nat)) (cells : List A) : List (Nat × A) → Option (List A)
  | [] => some cells
  | (i, x) :: rest =>
    match place i with
    | none => none
    | some (off, size) =>
      bif Nat.beq x.cs.length size && Nat.ble (off + size) cells.length && cellsOk x then fillA place (cells.take off ++ (x.cs ++ cells.drop (off + size))) rest else none
def known (T : List TI) (t : Nat) : Option TI := match T[t]? with
  | some i => (match i.k with | .other => none | _ => some i)
  | none => none
theorem known_spec {T : List TI} {t : Nat} {i : TI} (h : known T t = some i) : T[t]? = some i ∧ i.k ≠ .other := by
  unfold known at h
  split at h
  · rename_i j hj
    split at h
    · simp at h
    · rename_i hne
      simp at h
      subst h
      exact ⟨hj, fun e => hne e⟩
  · simp at h
def allPlaces (T : List TI) : List (Nat × Nat) → Option (List (Nat × Nat))
  | [] => some []
  | (off, t) :: r => match known T t, allPlaces T r with
    | some i, some l => some ((off, i.size) :: l)
    | _, _ => none

/-- A pointer to frozen cells, no matter of which block. -/
def A.asP : A → A
  | .cp cs => .pp cs
  | x => x
theorem asP_rep {G : Gh} {x : A} {v : Value} (h : Rep G x v) : Rep G x.asP v := by
  cases x <;> first | exact h | skip
  simp only [Rep] at h
  obtain ⟨b, off, vs, e, ha, hl, _⟩ := h
  exact ⟨b, off, vs, e, ha, hl⟩
def aval (T : List TI) (E : Env) (o : Op) : Option A :=
  match o with
  | .move x | .assign x => some (opA E x)
  | .pick c a b => match opA E c with
    | .bool t => some (bif t then opA E a else opA E b)
    | _ => none
  | .build t parts => match T[t]? with
    | some ⟨.struct fs, _, _, zero⟩ => (match allPlaces T fs with | some pl => (fillA (fun i => pl[i]?) (zero.map ofZ) (parts.toList.map fun (i, x) => (i, opA E x))).map .agg | none => none)
    | some ⟨.array _ e, _, _, zero⟩ => match known T e with
      | some ei => (fillA (fun i => some (i * ei.size, ei.size)) (zero.map ofZ) (parts.toList.map fun (i, x) => (i, opA E x))).map .agg
      | none => none
    | _ => none
  | .load t x => match known T t, (opA E x).asP with
    | some i, .pp cs => bif i.k.isAgg then (bif Nat.ble i.size cs.length then some (.agg (cs.take i.size)) else none) else cs.head?
    | _, _ => none
  | .nilCheck x => match (opA E x).asP with
    | .pp cs => some (.pp cs)
    | .ref b off => some (.ref b off)
    | _ => none
  | .binOp op _ x y _ => binA op (opA E x) (opA E y)
  | .unOp .not _ x => match opA E x with
    | .bool b => some (.bool !b)
    | _ => none
  | .unOp .neg _ x => match opA E x with
    | .int k n => some (.int k (k.wrap (0 - n)))
    | _ => none
  | .convert src dst x => match known T src, known T dst, opA E x with
    | some _, some ⟨.int k, _, _, _⟩, .int _ n => some (.int k (k.wrap n))
    | some _, some ⟨.string, _, _, _⟩, .str s => some (.str s)
    | _, _, _ => none
  | .makeFunc (.func f) first cap => bif Nat.beq first.size 0 then some (.fn f (cap.toList.map (opA E))) else none
  | .fieldAddr s x f => match T[s]? with
    | some ⟨.struct fs, _, _, _⟩ => match fs[f]? with
      | some (off, t) => match known T t with
        | some i => bif Nat.beq i.size 0 then none else match (opA E x).asP with
            | .pp cs => some (.pp (cs.drop off))
            | .ref b o => some (.ref b (o + off))
            | _ => none
        | none => none
      | none => none
    | _ => none
  | .field s x f => match T[s]? with
    | some ⟨.struct fs, _, _, _⟩ => match fs[f]? with
      | some (off, t) => match known T t, opA E x with
        | some i, .agg cs => bif i.k.isAgg then some (.agg ((cs.drop off).take i.size)) else cs[off]?
        | _, _ => none
      | none => none
    | _ => none
  | .extract x i => match opA E x with
    | .tup cs => cs[i]?
    | _ => none
  | .call { callee := .builtin .len, args, argTypes } => match args.toList, (argTypes[0]?).bind (known T) with
    | [x], some ti => match ti.k, opA E x with
      | .slice _, .psl n _ => some (.int .i64 n)
      | .slice _, .own _ n _ => some (.int .i64 n)
      | .slice _, .nils => some (.int .i64 0)
      | .string, .str s => some (.int .i64 s.size)
      | _, _ => none
    | _, _ => none
  | .call { callee := .builtin .min, args, .. } => match args.toList.map (opA E) with
    | [.int k x, .int _ y] => some (.int k (if y < x then y else x))
    | _ => none
  | .call { callee := .builtin .max, args, .. } => match args.toList.map (opA E) with
    | [.int k x, .int _ y] => some (.int k (if y > x then y else x))
    | _ => none
  | _ => none

section sound
variable {P : Program} {T : List TI} {K : Ctx} {N : Nat} {G : Gh} {E : Env} {M : List Ob} {a : Act} {w : World}

theorem int_inv {x : A} {v : Value} {k : IntKind} {n : Int} (h : Rep G x v) (e : x = .int k n) : v = .int k n := by subst e; simpa [Rep] using h

theorem arith_run {op : BinOp} {k : IntKind} {x y : Int} {r : A} (h : arithA op k x y = some r) (t : TypeId) : ∃ v, (binOp op t (.int k x) (.int k y)).run P w = .ok v w ∧ Rep G r v := by
  cases op <;> simp [arithA] at h <;> subst h
  case add => exact ⟨.int k (k.wrap (x + y)), by simp [binOp, Op.intArith], rfl⟩
  case sub => exact ⟨.int k (k.wrap (x - y)), by simp [binOp, Op.intArith], rfl⟩
  case mul => exact ⟨.int k (k.wrap (x * y)), by simp [binOp, Op.intArith], rfl⟩
  case and => exact ⟨.int k _, by simp [binOp, Op.intBits], rfl⟩
  case or => exact ⟨.int k _, by simp [binOp, Op.intBits], rfl⟩
  case xor => exact ⟨.int k _, by simp [binOp, Op.intBits], rfl⟩
  case eql => exact ⟨.bool (x == y), by simp [binOp, Op.intCmp], rfl⟩
  case neq => exact ⟨.bool (x != y), by simp [binOp, Op.intCmp], rfl⟩
  case lss => exact ⟨.bool (x < y), by simp [binOp, Op.intCmp], rfl⟩
  case leq => exact ⟨.bool (x ≤ y), by simp [binOp, Op.intCmp], rfl⟩
  case gtr => exact ⟨.bool (x > y), by simp [binOp, Op.intCmp], rfl⟩
  case geq => exact ⟨.bool (x ≥ y), by simp [binOp, Op.intCmp], rfl⟩

theorem str_run {op : BinOp} {x y : ByteArray} {r : A} (h : binA op (.str x) (.str y) = some r) (t : TypeId) : ∃ v, (binOp op t (.string x) (.string y)).run P w = .ok v w ∧ Rep G r v := by
  cases op <;> simp [binA] at h <;> subst h
  case eql => exact ⟨.bool (x.toList == y.toList), by simp [binOp, Op.stringOp], rfl⟩
  case neq => exact ⟨.bool (!(x.toList == y.toList)), by simp [binOp, Op.stringOp], rfl⟩

theorem eqGuard_run {op : BinOp} {t : TypeId} {x y : Operand} {u v : Value} (h : (∃ k n, u = .int k n) ∨ (∃ s, u = .string s) ∨ (∃ b, u = .bool b) ∨ ∃ p, u = .pointer p) : (eqGuard op t x y u v).run P w = .ok () w := by
  unfold eqGuard
  rcases h with ⟨k, n, rfl⟩ | ⟨s, rfl⟩ | ⟨b, rfl⟩ | ⟨p, rfl⟩ <;> by_cases ho : (!(op matches .eql | .neq)) = true <;> simp [ho]

theorem binA_run {op : BinOp} {xa ya : A} {u v : Value} {r : A} (h : binA op xa ya = some r) (hu : Rep G xa u) (hv : Rep G ya v) (t : TypeId) (x y : Operand) :
    ∃ z, (do eqGuard op t x y u v; binOp op t u v : Sem Value).run P w = .ok z w ∧ Rep G r z := by
  unfold binA at h
  split at h
  · rename_i k a' k' b'
    simp only [Rep] at hu hv
    subst hu; subst hv
    split at h
    · rename_i e
      subst e
      obtain ⟨z, h1, h2⟩ := arith_run (P := P) (G := G) (w := w) h t
      exact ⟨z, by simp [eqGuard_run (P := P) (w := w) (op := op) (t := t) (x := x) (y := y) (u := .int k a') (v := .int k b') (.inl ⟨_, _, rfl⟩), h1], h2⟩
    · simp at h
  · rename_i s s'
    simp only [Rep] at hu hv
    subst hu; subst hv
    obtain ⟨z, h1, h2⟩ := str_run (P := P) (G := G) (w := w) (op := op) (x := s) (y := s') (r := r) h t
    exact ⟨z, by simp [eqGuard_run (P := P) (w := w) (op := op) (t := t) (x := x) (y := y) (u := .string s) (v := .string s') (.inr (.inl ⟨_, rfl⟩)), h1], h2⟩
  · simp at h

theorem run_info {t : Nat} {i : TypeInfo} (h : P.info? t = some i) : (typeInfo t).run P w = .ok i w := by simp [typeInfo, h]
theorem run_und {t : Nat} {d : TypeDesc} (h : P.underlying t = some d) : (underlying t).run P w = .ok d w := by simp [underlying, h]
theorem run_size {t : Nat} {i : TI} (h : TG P t i) : (sizeOf t).run P w = .ok i.size w := by
  obtain ⟨info, z, h1, h2, _⟩ := h.info
  simp [sizeOf, run_info h1, h2]
theorem run_isAgg {t : Nat} {i : TI} (h : TG P t i) : (isAgg t).run P w = .ok i.k.isAgg w := by
  obtain ⟨d, h1, h2⟩ := h.und
  rw [← h2]
  cases d <;> simp [isAgg, run_und h1, tkOf, TK.isAgg]

theorem addr_add (b off n : Nat) : (⟨b, off, none⟩ : Addr).add n = ⟨b, off + n, none⟩ := by unfold Addr.add; split <;> simp_all

/-- A variable's value out of its cells. -/
theorem loadVar_run {t : Nat} {i : TI} (ht : TG P t i) {b off : Nat} {vs : List Value} (hl : vs.length = i.size) (h : ∀ j v, vs[j]? = some v → w.cell? ⟨b, off + j, none⟩ = some v) :
    (loadVar t ⟨b, off, none⟩).run P w = if i.k.isAgg then .ok (.agg vs.toArray) w else match vs with | v :: _ => .ok v w | [] => (loadVar t ⟨b, off, none⟩).run P w := by
  by_cases ha : i.k.isAgg = true
  · rw [if_pos ha]
    have hc := run_loadCells_list (P := P) w ⟨b, off, none⟩ vs (fun j v hj => by rw [addr_add]; exact h j v hj)
    rw [hl] at hc
    simp [loadVar, run_isAgg ht, ha, run_size ht, hc]
  · rw [if_neg ha]
    cases vs with
    | nil => rfl
    | cons v vs =>
      have hc : w.cell? ⟨b, off, none⟩ = some v := by simpa using h 0 v rfl
      simp [loadVar, run_isAgg ht, ha, run_load, hc]

theorem loadAt_run (hT : TOk P T) {t : Nat} {x : Operand} {r : A} (h : aval T E (.load t x) = some r) (hi : Inv K N G ⟨E, M⟩ a w) :
    ∃ v, (Instr.loadAt t (a.eval x)).run P w = .ok v w ∧ Rep G r v := by
  have hx := asP_rep (opA_rep hi x)
  simp only [aval] at h
  split at h
  · rename_i ti cs hti hcs
    rw [hcs] at hx
    obtain ⟨b, off, vs, hv, hat, hl⟩ := hx
    rw [hv]
    have step : (Instr.loadAt t (.pointer (some ⟨b, off, none⟩))).run P w = (loadVar t ⟨b, off, none⟩).run P w := by simp [Instr.loadAt, Instr.sureAddr]
    rw [step]
    have hlen := hl.length
    obtain ⟨hti, hno⟩ := known_spec hti
    have hg := hT.get hti hno
    cases ha : ti.k.isAgg with
    | true =>
      rw [ha, cond_true] at h
      cases hb : Nat.ble ti.size cs.length with
      | false => rw [hb] at h; simp at h
      | true =>
        rw [hb] at h
        simp at h
        subst h
        have hle := Nat.le_of_ble_eq_true hb
        refine ⟨.agg (vs.take ti.size).toArray, ?_, ⟨_, rfl, hl.take _⟩⟩
        rw [loadVar_run hg (vs := vs.take ti.size) (by simp; omega) (fun j v hj => ?_), if_pos ha]
        have hj' : vs[j]? = some v := by
          have hlt := (List.getElem?_eq_some_iff.1 hj).1
          rw [List.getElem?_take_of_lt (by simp at hlt; omega)] at hj
          exact hj
        exact hi.ok.cell hat hj'
    | false =>
      rw [ha, cond_false] at h
      cases cs with
      | nil => simp at h
      | cons c cs =>
        simp at h
        subst h
        obtain ⟨v, vs', rfl, h1, _⟩ := hl
        refine ⟨v, ?_, h1⟩
        have hc : w.cell? ⟨b, off, none⟩ = some v := by simpa using hi.ok.cell hat (i := 0) (v := v) rfl
        simp [loadVar, run_isAgg hg, ha, run_load, hc]
  · simp at h

end sound

end Go.Proofs.Ytafncdbkbmaifaa.Ab

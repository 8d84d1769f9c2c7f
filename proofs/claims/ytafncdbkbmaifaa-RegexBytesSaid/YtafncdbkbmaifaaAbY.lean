/- Bytes of texts, shifts, bits, where a byte stands in a text; a store in a drawn region. No condition. -/
import Derived.Test.YtafncdbkbmaifaaAbV
import Derived.Laws.Externs
import Derived.Laws.Strings
set_option linter.unusedVariables false
set_option linter.unusedSimpArgs false
namespace Go.Proofs.Ytafncdbkbmaifaa.Ab
section
variable {P : Program} {T : List TI} {N : Nat} {ops : Array Oper} {rest : List Oper} {o : Oper} {Q : Exit → St → Prop} {E F : Env} {M : List Ob}
theorem str_at {s : List Int} {i : Nat} {c : Int} (hc : s[i]? = some c) (hb : 0 ≤ c ∧ c ≤ 255) (h : i < (strOfNums s).size) : (((strOfNums s)[i]'h).toNat : Int) = c := by
  have e : (strOfNums s)[i]'h = UInt8.ofNat c.toNat := by
    have h3 : (strOfNums s).data.toList[i]? = some (UInt8.ofNat c.toNat) := by rw [strOfNums_data, List.getElem?_map, hc]; rfl
    obtain ⟨h4, h5⟩ := List.getElem?_eq_some_iff.1 h3
    rw [← h5]; rfl
  rw [e]
  simp [UInt8.toNat_ofNat]
  omega
/-- A byte of a text. -/
theorem aops_idxs (hT : TOk P T) {t d : Nat} {x ix : Operand} {s : List Int} {k : IntKind} {i : Int} (c : Int) (ho : o.op = .index t x ix) (ht : kindOf T t = some .string) (hx : opA E x = .str (strOfNums s)) (hix : opA E ix = .int k i) (h0 : 0 ≤ i) (hc : s[i.toNat]? = some c) (hb : 0 ≤ c ∧ c ≤ 255)
    (hg : guardOn ops o E = some true) (hd : o.dst = some d) (hN : Nat.blt d N = true) (next : AOps P N ops rest Q ⟨(d, .int .u8 c) :: E, M⟩) : AOps P N ops (o :: rest) Q ⟨E, M⟩ := by
  refine aops_val hg (by rw [hd]; exact hN) (.int .u8 c) M (fun K G av w hi => ?_) (by rw [hd]; exact next)
  have hrx := opA_rep hi x
  have hri := opA_rep hi ix
  rw [hx] at hrx; rw [hix] at hri
  simp only [Rep] at hrx hri
  have hlt : i.toNat < s.length := (List.getElem?_eq_some_iff.1 hc).1
  have hsz : (strOfNums s).size = s.length := strOfNums_size s
  have hrun := run_index_string (P := P) w t (strOfNums s) k i (kindOf_string hT ht)
  rw [dif_pos ⟨h0, by omega⟩, str_at hc hb] at hrun
  exact ⟨.int .u8 c, w, G, by simp only [execOp, ho, hrx, hri, Sem.run_bind, hrun, Result.andThen_ok]; rfl, hi.ok, G.le_refl, rfl⟩
theorem seqT_idxs (hT : TOk P T) {l : List Oper} {n : Nat} {t d : Nat} {x ix : Operand} {s : List Int} {k : IntKind} {i : Int} (c : Int) (ho : o.op = .index t x ix) (ht : kindOf T t = some .string) (hx : opA F x = .str (strOfNums s)) (hix : opA F ix = .int k i) (h0 : 0 ≤ i) (hc : s[i.toNat]? = some c) (hb : 0 ≤ c ∧ c ≤ 255)
    (hg : guardOn ops o F = some true) (hd : o.dst = some d) (hN : Nat.blt d N = true) (next : SeqT P N ops Q M ((d, .int .u8 c) :: F) n l) : SeqT P N ops Q M F (n + 1) (o :: l) := by
  refine seqT_y (x := .int .u8 c) (fun E hE rest Q next => ?_) hd next
  refine aops_idxs hT c ho ht ((agree_op hE (by rw [ho]; simp [Op.operands])).trans hx) ((agree_op hE (by rw [ho]; simp [Op.operands])).trans hix) h0 hc hb ((agree_guard hE).trans hg) hd hN ?_
  rwa [hd] at next

/-! ### shifts and bits of words -/
theorem u64_wrap {n : Int} (h0 : 0 ≤ n) (h1 : n < 18446744073709551616) : IntKind.u64.wrap n = n := by
  have : IntKind.u64.wrap n = n % 18446744073709551616 := by unfold IntKind.wrap; rfl
  rw [this]; omega
theorem shift_run {op : BinOp} {k k' : IntKind} {a b : Int} {r : Int} (hb : 0 ≤ b) (hop : (op = .shl ∧ r = k.wrap (a * 2 ^ (min b.toNat k.bits))) ∨ (op = .shr ∧ r = a.fdiv (2 ^ (min b.toNat k.bits)))) (t : Nat) (w : World) : (binOp op t (.int k a) (.int k' b)).run P w = .ok (.int k r) w := by
  have hb' : ¬ b < 0 := by omega
  rcases hop with ⟨rfl, rfl⟩ | ⟨rfl, rfl⟩ <;> simp [binOp, Op.shift, hb']
theorem aops_shift {op : BinOp} {t t' d : Nat} {x y : Operand} {k k' : IntKind} {a b : Int} (r : Int) (ho : o.op = .binOp op t x y t') (hx : opA E x = .int k a) (hy : opA E y = .int k' b) (hb : 0 ≤ b) (hop : (op = .shl ∧ r = k.wrap (a * 2 ^ (min b.toNat k.bits))) ∨ (op = .shr ∧ r = a.fdiv (2 ^ (min b.toNat k.bits))))
    (hg : guardOn ops o E = some true) (hd : o.dst = some d) (hN : Nat.blt d N = true) (next : AOps P N ops rest Q ⟨(d, .int k r) :: E, M⟩) : AOps P N ops (o :: rest) Q ⟨E, M⟩ := by
  refine aops_val hg (by rw [hd]; exact hN) (.int k r) M (fun K G av w hi => ?_) (by rw [hd]; exact next)
  have hrx := opA_rep hi x
  have hry := opA_rep hi y
  rw [hx] at hrx; rw [hy] at hry
  simp only [Rep] at hrx hry
  refine ⟨.int k r, w, G, ?_, hi.ok, G.le_refl, rfl⟩
  have h1 : (eqGuard op t x y (.int k a) (.int k' b)).run P w = .ok () w := eqGuard_run (.inl ⟨_, _, rfl⟩)
  simp only [execOp, ho, hrx, hry, Sem.run_bind, h1, shift_run hb hop, Result.andThen_ok]
  rfl
theorem seqT_shift {op : BinOp} {l : List Oper} {n : Nat} {t t' d : Nat} {x y : Operand} {k k' : IntKind} {a b : Int} (r : Int) (ho : o.op = .binOp op t x y t') (hx : opA F x = .int k a) (hy : opA F y = .int k' b) (hb : 0 ≤ b) (hop : (op = .shl ∧ r = k.wrap (a * 2 ^ (min b.toNat k.bits))) ∨ (op = .shr ∧ r = a.fdiv (2 ^ (min b.toNat k.bits))))
    (hg : guardOn ops o F = some true) (hd : o.dst = some d) (hN : Nat.blt d N = true) (next : SeqT P N ops Q M ((d, .int k r) :: F) n l) : SeqT P N ops Q M F (n + 1) (o :: l) := by
  refine seqT_y (x := .int k r) (fun E hE rest Q next => ?_) hd next
  refine aops_shift r ho ((agree_op hE (by rw [ho]; simp [Op.operands])).trans hx) ((agree_op hE (by rw [ho]; simp [Op.operands])).trans hy) hb hop ((agree_guard hE).trans hg) hd hN ?_
  rwa [hd] at next
theorem or64 {x y : Nat} (hx : x < 2 ^ 64) (hy : y < 2 ^ 64) : IntKind.u64.wrap ((BitVec.ofInt IntKind.u64.bits x ||| BitVec.ofInt IntKind.u64.bits y).toNat) = ((x ||| y : Nat) : Int) := by
  have e : (BitVec.ofInt IntKind.u64.bits x ||| BitVec.ofInt IntKind.u64.bits y).toNat = x ||| y := by
    rw [BitVec.toNat_or]
    show (BitVec.ofInt 64 x).toNat ||| (BitVec.ofInt 64 y).toNat = _
    have h1 : (BitVec.ofInt 64 (x : Int)).toNat = x := by simp; omega
    have h2 : (BitVec.ofInt 64 (y : Int)).toNat = y := by simp; omega
    rw [h1, h2]
  rw [e]
  have := Nat.or_lt_two_pow hx hy
  exact u64_wrap (by omega) (by omega)
theorem and64 {x y : Nat} (hx : x < 2 ^ 64) (hy : y < 2 ^ 64) : IntKind.u64.wrap ((BitVec.ofInt IntKind.u64.bits x &&& BitVec.ofInt IntKind.u64.bits y).toNat) = ((x &&& y : Nat) : Int) := by
  have e : (BitVec.ofInt IntKind.u64.bits x &&& BitVec.ofInt IntKind.u64.bits y).toNat = x &&& y := by
    rw [BitVec.toNat_and]
    show (BitVec.ofInt 64 x).toNat &&& (BitVec.ofInt 64 y).toNat = _
    have h1 : (BitVec.ofInt 64 (x : Int)).toNat = x := by simp; omega
    have h2 : (BitVec.ofInt 64 (y : Int)).toNat = y := by simp; omega
    rw [h1, h2]
  rw [e]
  have : x &&& y ≤ x := Nat.and_le_left
  exact u64_wrap (by omega) (by omega)
/-- The other bits of a word. -/
theorem aops_compl {t d : Nat} {x : Operand} {a : Nat} (ho : o.op = .unOp .xor t x) (hx : opA E x = .int .u64 a) (ha : a < 2 ^ 64) (hg : guardOn ops o E = some true) (hd : o.dst = some d) (hN : Nat.blt d N = true)
    (next : AOps P N ops rest Q ⟨(d, .int .u64 ((a ^^^ (2 ^ 64 - 1) : Nat) : Int)) :: E, M⟩) : AOps P N ops (o :: rest) Q ⟨E, M⟩ := by
  refine aops_val hg (by rw [hd]; exact hN) (.int .u64 ((a ^^^ (2 ^ 64 - 1) : Nat) : Int)) M (fun K G av w hi => ?_) (by rw [hd]; exact next)
  have hrx := opA_rep hi x
  rw [hx] at hrx
  simp only [Rep] at hrx
  have e : IntKind.u64.wrap ((BitVec.ofInt IntKind.u64.bits IntKind.u64.max ^^^ BitVec.ofInt IntKind.u64.bits (a : Int)).toNat) = ((a ^^^ (2 ^ 64 - 1) : Nat) : Int) := by
    have e1 : (BitVec.ofInt IntKind.u64.bits IntKind.u64.max ^^^ BitVec.ofInt IntKind.u64.bits (a : Int)).toNat = a ^^^ (2 ^ 64 - 1) := by
      rw [BitVec.toNat_xor]
      show (BitVec.ofInt 64 IntKind.u64.max).toNat ^^^ (BitVec.ofInt 64 (a : Int)).toNat = _
      have h1 : (BitVec.ofInt 64 IntKind.u64.max).toNat = 2 ^ 64 - 1 := by decide +kernel
      have h2 : (BitVec.ofInt 64 (a : Int)).toNat = a := by simp; omega
      rw [h1, h2, Nat.xor_comm]
    rw [e1]
    have := Nat.xor_lt_two_pow ha (show 2 ^ 64 - 1 < 2 ^ 64 by decide)
    exact u64_wrap (by omega) (by omega)
  refine ⟨.int .u64 ((a ^^^ (2 ^ 64 - 1) : Nat) : Int), w, G, ?_, hi.ok, G.le_refl, rfl⟩
  have hrun : (Op.unary .xor (.int .u64 (a : Int))).run P w = .ok (.int .u64 ((a ^^^ (2 ^ 64 - 1) : Nat) : Int)) w := by
    rw [← e]; rfl
  simp only [execOp, ho, hrx, Sem.run_bind, hrun, Result.andThen_ok]
  rfl
/-- Where a byte stands first in a text. -/
theorem aops_ibs {g : Operand} {d : Nat} {x y : Operand} {tys : Array TypeId} {f : FuncId} {fn : Func} {s : ByteArray} {c : Int} (hf : P.funcs[f]? = some fn) (ho : o.op = .call { callee := .value g, args := #[x, y], argTypes := tys }) (hgv : opA E g = .fn f [])
    (hname : (fn.name == "runtime.NumGoroutine") = false) (hb : fn.body.isNone = true) (hn : Extern.findNext fn = none) (he : Extern.find fn = some Extern.BytealgIndexByte.indexByte)
    (hx : opA E x = .str s) (hy : opA E y = .int .u8 c) (hg : guardOn ops o E = some true) (hd : o.dst = some d) (hN : Nat.blt d N = true)
    (next : AOps P N ops rest Q ⟨(d, .int .i64 (firstIdx s c.toNat.toUInt8)) :: E, M⟩) : AOps P N ops (o :: rest) Q ⟨E, M⟩ := by
  refine aops_val hg (by rw [hd]; exact hN) (.int .i64 (firstIdx s c.toNat.toUInt8)) M (fun K G a w hi => ?_) (by rw [hd]; exact next)
  have hrg := opA_rep hi g
  rw [hgv] at hrg
  obtain ⟨gs, hgv', hgl⟩ := hrg
  have hgs : gs = [] := by simpa [RepL] using hgl
  subst hgs
  have hrx := opA_rep hi x
  have hry := opA_rep hi y
  rw [hx] at hrx; rw [hy] at hry
  simp only [Rep] at hrx hry
  refine ⟨.int .i64 (firstIdx s c.toNat.toUInt8), w, G, ?_, hi.ok, G.le_refl, rfl⟩
  have e1 : (#[x, y] : Array Operand).map a.eval ++ (#[] : Array Value) = #[.string s, .int .u8 c] := by simp [hrx, hry]
  simp only [execOp, ho, resolve, Deferred.ofValue, hgv', Sem.run_bind, Sem.run_pure, Result.andThen_ok, invoke, Array.empty_append]
  simp only [e1, run_callFunc_extern hf hname hb hn he, run_indexByte_string, Result.andThen_ok]

/-! ### a store in a drawn region -/
theorem seqO_st (hT : TOk P T) {kp : List Ob} {al : List Nat} {q : Nat} {ll : List Oper} {n : Nat} (k : Nat) {t : Nat} {p x : Operand} {b off : Nat} {i : TI} {y : A} {room : Nat} {cs : List A} (cs' : List A) (M' : List Ob) (hi : al.contains q = true) (ho : o.op = .store t p x) (hp : opA F p = .ref b off) (hx : opA F x = y) (hk : known T t = some i)
    (hM : M[k]? = some ⟨some b, room, cs⟩) (hy : (Nat.beq y.cs.length i.size && cellsOk y) = true) (hoff : off + i.size ≤ cs.length) (hcs : cs.take off ++ (y.cs ++ cs.drop (off + i.size)) = cs') (hM' : M.set k ⟨some b, room, cs'⟩ = M') (hkp : ∀ o ∈ kp, o ∈ M')
    (hg : guardOn ops o F = some true) (hd : o.dst = none) (next : SeqO P N ops Q kp al (q + 1) F M' n ll) : SeqO P N ops Q kp al q F M (n + 1) (o :: ll) := by
  refine SeqO.make (x := fun _ => .any) (M2 := fun _ => M') hi (fun E hE rest Q next => ?_) (fun z o ho => hkp o ho) fun b => ?_
  · refine aops_stk hT k cs' M' ho ((agree_op hE (by rw [ho]; simp [Op.operands])).trans hp) ((agree_op hE (by rw [ho]; simp [Op.operands])).trans hx) hk hM hy hoff hcs hM' ((agree_guard hE).trans hg) hd ?_
    have := next []
    rw [hd] at this
    exact this
  · rw [hd]; exact next

/-! ### one object among others -/
theorem acalls_mid {f : FuncId} {xs : List A} {L : List Ob} {o : Ob} {R : A → Ob → Prop} (hc : ∀ M, ACalls P f xs (o :: M) (fun r M' => ∃ o', R r o' ∧ M' = o' :: M)) : ACalls P f xs (L ++ (o :: M)) (fun r M' => ∃ o', R r o' ∧ M' = L ++ (o' :: M)) := by
  refine acalls_perm (M := o :: (L ++ M)) List.perm_middle (hc (L ++ M)) ?_
  rintro r M' ⟨o', h1, rfl⟩
  exact ⟨_, List.perm_middle.symm, o', h1, rfl⟩
/-- A literal of one. -/
theorem aops_lit1 (hT : TOk P T) {d : Nat} {t e : Nat} {ei : TI} {x : Operand} {y : A} (ho : o.op = .buildSlice t 1 #[(0, x)]) (hs : sliceOf T t = some (e, ei)) (hsz : (Nat.blt 0 (1 * ei.size) && Nat.ble (1 * ei.size) 16777216 && Nat.beq ei.zero.length ei.size) = true)
    (hx : opA E x = y) (hy : (Nat.beq y.cs.length ei.size && cellsOk y) = true) (hg : guardOn ops o E = some true) (hd : o.dst = some d) (hN : Nat.blt d N = true) (next : AOps P N ops rest Q ⟨(d, .psl 1 y.cs) :: E, M⟩) : AOps P N ops (o :: rest) Q ⟨E, M⟩ := by
  refine aops_lit hT (r := y.cs) ho hs hsz ?_ hg (by rw [hd]; exact hN) (by rw [hd]; exact next)
  simp only [Bool.and_eq_true] at hsz hy
  have hz := Nat.eq_of_beq_eq_true hsz.2
  have hl := Nat.eq_of_beq_eq_true hy.1
  have hzl : (zerosA (ei.zero.map ofZ) 1).length = ei.size := by simp [zerosA, hz]
  simp only [List.map_cons, List.map_nil, fillA, hx, Nat.zero_mul, hl, hzl, hy.2, Nat.zero_add]
  simp only [Nat.beq_refl, Nat.ble_self_eq_true, Bool.and_self, cond_true, List.take_zero, List.nil_append, fillA]
  rw [List.drop_of_length_le (by omega), List.append_nil]
end
end Go.Proofs.Ytafncdbkbmaifaa.Ab

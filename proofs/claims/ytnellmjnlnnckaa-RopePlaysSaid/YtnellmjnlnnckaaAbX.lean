/- Two of the library's functions that have no body: a counter that is added to, and how often a byte stands in bytes. No condition. -/
import Derived.Test.YtnellmjnlnnckaaAbV
import Derived.Laws.LoneSync
import Derived.Lib.BytesEntry
set_option linter.unusedVariables false
set_option linter.unusedSimpArgs false
namespace Go.Proofs.Ytnellmjnlnnckaa.Ab
section
variable {P : Program} {T : List TI} {N : Nat} {ops : Array Oper} {rest : List Oper} {o : Oper} {Q : Exit → St → Prop} {E F : Env} {M : List Ob}
theorem intAdd_run (k : IntKind) (x y : Int) (w : World) : (Op.intArith .add k x y).run P w = .ok (.int k (k.wrap (x + y))) w := rfl
theorem setCell_facts (w : World) (b off : Nat) (v : Value) : (w.setCell ⟨b, off, none⟩ v).os = w.os ∧ (w.setCell ⟨b, off, none⟩ v).tape = w.tape ∧ (w.setCell ⟨b, off, none⟩ v).output = w.output ∧ (w.setCell ⟨b, off, none⟩ v).heap.size = w.heap.size ∧ ∀ k, k ≠ b → (w.setCell ⟨b, off, none⟩ v).heap[k]? = w.heap[k]? := by
  refine ⟨rfl, rfl, rfl, by simp [World.setCell], fun k hk => ?_⟩
  simp only [World.setCell, Array.getElem?_modify]
  rw [if_neg (by omega)]
theorem repL_set {G : Gh} : ∀ {cs : List A} {vs : List Value} (i : Nat) {y : A} {v : Value}, RepL G cs vs → Rep G y v → RepL G (cs.set i y) (vs.set i v)
  | [], vs, i, y, v, h, hy => by
    have : vs = [] := by simpa [RepL] using h
    subst this; simpa using h
  | c :: cs, vs, 0, y, v, h, hy => by
    obtain ⟨u, us, rfl, h1, h2⟩ := h
    exact ⟨v, us, rfl, hy, h2⟩
  | c :: cs, vs, i + 1, y, v, h, hy => by
    obtain ⟨u, us, rfl, h1, h2⟩ := h
    exact ⟨u, us.set i v, rfl, h1, repL_set i h2 hy⟩
/-- A number of one's own, added to at once. -/
theorem aops_add64 {g : Operand} {d : Nat} (k : Nat) {p y : Operand} {tys : Array TypeId} {f : FuncId} {fn : Func} {b off : Nat} {c z : Int} {room : Nat} {cs : List A} (hf : P.funcs[f]? = some fn) (ho : o.op = .call { callee := .value g, args := #[p, y], argTypes := tys }) (hgv : opA E g = .fn f [])
    (hname : (fn.name == "runtime.NumGoroutine") = false) (hb : fn.body.isNone = true) (hn : Extern.findNext fn = none) (he : Extern.find fn = some (Extern.Atomic.update (Op.intArith .add) .i64 true))
    (hp : opA E p = .ref b off) (hy : opA E y = .int .i64 z) (hM : M[k]? = some ⟨some b, room, cs⟩) (hc : cs[off]? = some (.int .i64 c)) (hg : guardOn ops o E = some true) (hd : o.dst = some d) (hN : Nat.blt d N = true)
    (next : AOps P N ops rest Q ⟨(d, .int .i64 (IntKind.i64.wrap (c + z))) :: E, M.set k ⟨some b, room, cs.set off (.int .i64 (IntKind.i64.wrap (c + z)))⟩⟩) : AOps P N ops (o :: rest) Q ⟨E, M⟩ := by
  refine aops_val hg (by rw [hd]; exact hN) (.int .i64 (IntKind.i64.wrap (c + z))) (M.set k ⟨some b, room, cs.set off (.int .i64 (IntKind.i64.wrap (c + z)))⟩) (fun K G a w hi => ?_) (by rw [hd]; exact next)
  have hrg := opA_rep hi g
  rw [hgv] at hrg
  obtain ⟨gs, hgv', hgl⟩ := hrg
  have hgs : gs = [] := by simpa [RepL] using hgl
  subst hgs
  have hrp := opA_rep hi p
  rw [hp] at hrp
  have hry := opA_rep hi y
  rw [hy] at hry
  simp only [Rep] at hrp hry
  obtain ⟨vs, sp, t', hh, hlv, hroom⟩ := hi.ok.ow _ (List.mem_of_getElem? hM) b rfl
  obtain ⟨v, hv, hrv⟩ := hlv.at off hc
  simp only [Rep] at hrv
  subst hrv
  have hlt : off < vs.length := (List.getElem?_eq_some_iff.1 hv).1
  have hcell : w.cell? ⟨b, off, none⟩ = some (.int .i64 c) := by
    simp [World.cell?, hh, List.getElem?_append_left hlt, hv]
  have hfz : w.frozen? ⟨b, off, none⟩ = false := by
    simp [World.frozen?, hh]
  have hrun := run_call_add hf hname hb hn .i64 he hcell hfz (intAdd_run (P := P) .i64 c z w)
  refine ⟨.int .i64 (IntKind.i64.wrap (c + z)), w.setCell ⟨b, off, none⟩ (.int .i64 (IntKind.i64.wrap (c + z))), G, ?_, hi.ok.update hM rfl _ (setCell_facts w b off _) ⟨vs.set off (.int .i64 (IntKind.i64.wrap (c + z))), sp, t', ?_, repL_set off hlv rfl, by simpa using hroom⟩, G.le_refl, rfl⟩
  · have e1 : (#[p, y] : Array Operand).map a.eval ++ (#[] : Array Value) = #[.pointer (some ⟨b, off, none⟩), .int .i64 z] := by simp [hrp, hry]
    simp only [execOp, ho, resolve, Deferred.ofValue, hgv', Sem.run_bind, Sem.run_pure, Result.andThen_ok, invoke, Array.empty_append]
    simp only [e1, hrun]
  · have hlt2 : b < w.heap.size := (Array.getElem?_eq_some_iff.1 hh).1
    simp only [World.setCell, Array.getElem?_modify, if_pos, hh, Option.map_some]
    simp [List.set_append_left _ _ hlt]
/-- How often a byte stands there. -/
theorem aops_count (hT : TOk P T) {g : Operand} {d : Nat} {x y : Operand} {tys : Array TypeId} {f : FuncId} {fn : Func} {n : Nat} {xs : List Int} {z : Int} (hf : P.funcs[f]? = some fn) (ho : o.op = .call { callee := .value g, args := #[x, y], argTypes := tys }) (hgv : opA E g = .fn f [])
    (hname : (fn.name == "runtime.NumGoroutine") = false) (hb : fn.body.isNone = true) (hn : Extern.findNext fn = none) (he : Extern.find fn = some Extern.BytealgCount.count)
    (hx : opA E x = .psl n (u8s xs)) (hl : xs.length = n) (hy : opA E y = .int .u8 z) (hg : guardOn ops o E = some true) (hd : o.dst = some d) (hN : Nat.blt d N = true)
    (next : AOps P N ops rest Q ⟨(d, .int .i64 (Lib.countByte (Lib.bytesOf xs) z.toNat.toUInt8 : Nat)) :: E, M⟩) : AOps P N ops (o :: rest) Q ⟨E, M⟩ := by
  refine aops_val hg (by rw [hd]; exact hN) (.int .i64 (Lib.countByte (Lib.bytesOf xs) z.toNat.toUInt8 : Nat)) M (fun K G a w hi => ?_) (by rw [hd]; exact next)
  have hrg := opA_rep hi g
  rw [hgv] at hrg
  obtain ⟨gs, hgv', hgl⟩ := hrg
  have hgs : gs = [] := by simpa [RepL] using hgl
  subst hgs
  have hr := opA_rep hi x
  rw [hx] at hr
  obtain ⟨ad, cap, hv, hnn, _, vs, hlv, hz⟩ := hr
  have hvs := u8s_rep hlv
  have hry := opA_rep hi y
  rw [hy] at hry
  simp only [Rep] at hry
  have key : (Extern.BytealgCount.count #[.slice ad n cap, .int .u8 z]).run P w = .ok (.int .i64 (Lib.countByte (Lib.bytesOf xs) z.toNat.toUInt8 : Nat)) w := by
    have hs := Lib.run_countString (P := P) ⟨(Lib.bytesOf xs).toArray⟩ z w
    cases ad with
    | none =>
      have h0 : xs = [] := by
        rcases hz with h0 | ⟨b, off, e, _⟩
        · cases xs <;> simp_all [u8s]
        · cases e
      subst h0
      exact Lib.run_countString (P := P) .empty z w
    | some p =>
      have hc : ∀ j y, xs[j]? = some y → w.cell? (p.add j) = some (.int .u8 y) := by
        intro j y hj
        rcases hz with h0 | ⟨b, off, e, hat⟩
        · have : xs = [] := by cases xs <;> simp_all [u8s]
          subst this; simp at hj
        · cases e
          have e2 : (⟨b, off, none⟩ : Addr).add j = ⟨b, off + j, none⟩ := by unfold Addr.add; split <;> simp_all
          rw [e2]
          refine hi.ok.cell hat ?_
          rw [hvs]; simp [hj]
      have hl2 := Lib.run_loadBytesX (P := P) w xs p .empty hc
      rw [hl] at hl2
      have he2 : (⟨ByteArray.empty.data ++ (Lib.bytesOf xs).toArray⟩ : ByteArray) = ⟨(Lib.bytesOf xs).toArray⟩ := by
        apply ByteArray.ext
        show (#[] : Array UInt8) ++ (Lib.bytesOf xs).toArray = (Lib.bytesOf xs).toArray
        simp
      rw [he2] at hl2
      change Sem.run P (do
        let b ← Extern.Bytes.bytesOf (.slice (some p) n cap)
        let c' ← Extern.Bytes.asByte (.int .u8 z)
        pure (goInt (b.foldl (fun n x => if x == c' then n + 1 else n) (0 : Nat)))) w = _
      change Sem.run P (do
        let b ← Extern.Bytes.bytesOf (.string ⟨(Lib.bytesOf xs).toArray⟩)
        let c' ← Extern.Bytes.asByte (.int .u8 z)
        pure (goInt (b.foldl (fun n x => if x == c' then n + 1 else n) (0 : Nat)))) w = _ at hs
      simp only [Extern.Bytes.bytesOf, Sem.run_bind, Sem.run_pure, hl2, Result.andThen] at hs ⊢
      simpa using hs
  refine ⟨_, w, G, ?_, hi.ok, G.le_refl, rfl⟩
  have e1 : (#[x, y] : Array Operand).map a.eval ++ (#[] : Array Value) = #[.slice ad n cap, .int .u8 z] := by simp [hv, hry]
  simp only [execOp, ho, resolve, Deferred.ofValue, hgv', Sem.run_bind, Sem.run_pure, Result.andThen_ok, invoke, Array.empty_append]
  simp only [e1, run_callFunc_extern hf hname hb hn he, key, Result.andThen_ok]
end
end Go.Proofs.Ytnellmjnlnnckaa.Ab

/- Arguments that read as data are abstract values; a law's contract gives its row's. Condition: the table of types agrees with the program's. -/
import Derived.Test.YtafncdbkbmaifaaAb7
import Derived.WalkKit
import Derived.ProofKit
import Derived.OpenShut
import Derived.ShutString
import Derived.ChangeOld
import Derived.Carry
import Derived.SizedLaws
set_option linter.unusedVariables false
set_option linter.unusedSimpArgs false
namespace Go.Proofs.Ytafncdbkbmaifaa.Ab
open Go.RowKit Go.ChangeShapes

/-- A value of a type, all of it told. -/
def Good (T : List TI) : Nat → Nat → A → Prop
  | 0, _, _ => False
  | f + 1, t, x => match kindOf T t with
    | some (.int k) => ∃ n, x = .int k n ∧ (Lit.int k n).wf = true
    | some .bool => ∃ b, x = .bool b
    | some .string => ∃ s, x = .str s ∧ s.size ≤ maxLen
    | some (.slice e) => ∃ css : List (List A), x = .psl css.length css.flatten ∧ (css.length ≤ maxLen ∧ ∀ ei, known T e = some ei → css.length * ei.bytes ≤ reachBytes) ∧ ∀ c ∈ css, ∃ y, Good T f e y ∧ y.cs = c
    | some (.struct fs) => ∃ css : List (List A), x = .agg css.flatten ∧ css.length = fs.length ∧ ∀ (i : Nat) (c : List A) (p : Nat × Nat), css[i]? = some c → fs[i]? = some p → ∃ y, Good T f p.2 y ∧ y.cs = c
    | some (.array n e) => ∃ css : List (List A), x = .agg css.flatten ∧ css.length = n ∧ ∀ c ∈ css, ∃ y, Good T f e y ∧ y.cs = c
    | _ => False

def G0 (w : World) : Gh := ⟨fun b => match w.heap[b]? with
  | some (.cells c _ _) => c.toList
  | _ => [], fun b => match w.heap[b]? with
  | some (.map es _) => mapView es.toList
  | _ => none, fun b => ∃ c t, w.heap[b]? = some (.cells c t (0, 0)) ∧ c.toList ≠ [], fun b => match w.heap[b]? with
  | some (.cells _ t _) => some t
  | _ => none⟩
theorem G0_cell {w : World} {b off : Nat} {v : Value} (h : w.cell? ⟨b, off, none⟩ = some v) : ((G0 w).Z b)[off]? = some v := by
  simp only [World.cell?] at h
  simp only [G0]
  split at h
  · rename_i c _ _ hh
    simp at h
    simp [hh, h]
  · simp at h
theorem cell_spot {w : World} {a : Addr} {v : Value} (h : w.cell? a = some v) : a.spot = none := by
  simp only [World.cell?] at h
  split at h
  · split at h
    · simp at h
    · rename_i hs; simpa using hs
  · simp at h

theorem ok_init (w : World) : Ok ⟨w, [], G0 w⟩ (G0 w) [] w := by
  refine ⟨Gh.le_refl _, rfl, rfl, rfl, Nat.le_refl _, fun _ _ _ => rfl, ?_, by simp, by simp, by simp, by simp, by simp, ?_, ?_, ?_⟩
  rotate_left
  · intro b ks e
    simp only [G0] at e
    refine ⟨?_, fun _ => e⟩
    split at e
    · rename_i es c hh; exact ⟨es, c, hh, e⟩
    · cases e
  · rintro b ⟨c, t, h1, h2⟩
    refine ⟨?_, c, t, h1⟩
    simp only [G0, h1]
    exact h2
  · intro b t e
    simp only [G0] at e
    split at e
    · rename_i c t' f hh
      cases e
      exact ⟨c, f, hh⟩
    · cases e
  intro b hb
  simp only [G0] at hb ⊢
  split at hb
  · rename_i c t f hh
    exact ⟨c, t, f, hh, by simp [hh]⟩
  · exact absurd rfl hb

/-- All that lay there before lies there still. -/
theorem below_of_ok {w w' : World} {G : Gh} {M : List Ob} {g0 : Gh} (h : Ok ⟨w, [], g0⟩ G M w') : Below w.heap.size w w' :=
  ⟨h.os, h.tape, h.output, h.size, fun k hk => h.fr k hk (by simp)⟩

section
variable {P : Program} {T : List TI} {H : Type} {enc : TypeId × Value → H} {w : World}

theorem mapM_some {α β : Type} {g : α → Option β} : ∀ {l : List α} {r : List β}, l.mapM g = some r → r.length = l.length ∧ ∀ (i : Nat) (x : α), l[i]? = some x → ∃ y, r[i]? = some y ∧ g x = some y
  | [], r, h => by simp at h; subst h; simp
  | a :: l, r, h => by
    simp only [List.mapM_cons] at h
    cases ha : g a with
    | none => simp [ha] at h
    | some b =>
      cases hl : l.mapM g with
      | none => simp [ha, hl] at h
      | some r' =>
        simp [ha, hl] at h
        subst h
        obtain ⟨h1, h2⟩ := mapM_some hl
        refine ⟨by simp [h1], fun i x hx => ?_⟩
        cases i with
        | zero => simp at hx; subst hx; exact ⟨b, by simp, ha⟩
        | succ i => simp at hx; simpa using h2 i x hx

/-- Cells that are read lie in what is frozen. -/
theorem cells_at {a : Addr} {n : Nat} {vs : List Value} (h : w.cells? 0 a n = some vs) (hn : 0 < n) : vs.length = n ∧ a = ⟨a.block, a.off, none⟩ ∧ At (G0 w) a.block a.off vs := by
  unfold World.cells? at h
  rw [if_pos (Nat.zero_le _)] at h
  obtain ⟨h1, h2⟩ := mapM_some h
  have hs : a.spot = none := by
    obtain ⟨y, _, hy⟩ := h2 0 0 (by simp [hn])
    have : a.add 0 = a := by unfold Addr.add; rw [if_pos rfl]
    rw [this] at hy
    exact cell_spot hy
  have ha : a = ⟨a.block, a.off, none⟩ := by cases a; simp_all
  refine ⟨by simpa using h1, ha, ?_⟩
  have key : ∀ i, i < n → ((G0 w).Z a.block)[a.off + i]? = vs[i]? := by
    intro i hi
    obtain ⟨y, hy1, hy⟩ := h2 i i (by simp [hi])
    rw [ha, addr_add] at hy
    rw [G0_cell hy, hy1]
  refine ⟨((G0 w).Z a.block).drop (a.off + n), ?_⟩
  apply List.ext_getElem?
  intro i
  rw [List.getElem?_drop]
  by_cases hi : i < n
  · rw [List.getElem?_append_left (by simp at h1; omega), ← key i hi]
  · rw [List.getElem?_append_right (by simp at h1; omega), List.getElem?_drop]
    simp at h1
    congr 1
    omega

theorem repL_flatten_of {G : Gh} : ∀ {css : List (List A)} {vss : List (List Value)}, css.length = vss.length → (∀ (i : Nat) c v, css[i]? = some c → vss[i]? = some v → RepL G c v) → RepL G css.flatten vss.flatten
  | [], [], _, _ => rfl
  | [], _ :: _, h, _ => by simp at h
  | _ :: _, [], h, _ => by simp at h
  | c :: css, v :: vss, h, hr => by
    simp only [List.flatten_cons]
    exact (hr 0 c v rfl rfl).append (repL_flatten_of (by simpa using h) (fun i c v h1 h2 => hr (i + 1) c v (by simpa using h1) (by simpa using h2)))

/-- The list of what is chosen for each. -/
theorem choose_list {α : Type} {n : Nat} {R : Nat → α → Prop} (h : ∀ i, i < n → ∃ x, R i x) : ∃ l : List α, l.length = n ∧ ∀ i x, l[i]? = some x → R i x := by
  induction n with
  | zero => exact ⟨[], rfl, by simp⟩
  | succ n ih =>
    obtain ⟨l, h1, h2⟩ := ih (fun i hi => h i (by omega))
    obtain ⟨x, hx⟩ := h n (by omega)
    refine ⟨l ++ [x], by simp [h1], fun i y hy => ?_⟩
    by_cases hi : i < l.length
    · rw [List.getElem?_append_left hi] at hy; exact h2 i y hy
    · rw [List.getElem?_append_right (by omega)] at hy
      have : i - l.length = 0 := by
        have := (List.getElem?_eq_some_iff.1 hy).1
        simp at this
        omega
      rw [this] at hy
      simp at hy
      subst hy
      have : i = n := by omega
      subst this
      exact hx

/-- What the table says of a type's cells as they lie in a struct: they lie side by side. -/
def layOk (T : List TI) : Nat → List (Nat × Nat) → Bool
  | _, [] => true
  | off, (o, t) :: r => Nat.beq o off && (match known T t with | some i => layOk T (off + i.size) r | none => false)
def layEnd (T : List TI) : Nat → List (Nat × Nat) → Nat
  | off, [] => off
  | off, (_, t) :: r => match known T t with | some i => layEnd T (off + i.size) r | none => off
/-- Each struct's fields lie side by side and fill it; each array's elements fill it; an element of a slice takes room. -/
def tyOk (T : List TI) (i : TI) : Bool := match i.k with
  | .struct fs => layOk T 0 fs && Nat.beq (layEnd T 0 fs) i.size
  | .array n e => (match known T e with | some ei => Nat.beq (n * ei.size) i.size && Nat.blt 0 ei.size | none => false)
  | .slice e => (match known T e with | some ei => Nat.blt 0 ei.size | none => false) && Nat.beq i.size 1
  | .other => true
  | _ => Nat.beq i.size 1

/-- The types of S are of S all through. -/
def closedS (T : List TI) (S : List Nat) : Bool := S.all fun t => match known T t with
  | some i => tyOk T i && (match i.k with
    | .int _ | .bool | .string => true
    | .slice e => S.contains e
    | .struct fs => fs.all fun p => S.contains p.2
    | .array _ e => S.contains e
    | _ => false)
  | none => false

theorem cellsOf_eq {t : Nat} {i : TI} (h : TG P t i) : P.cellsOf t = i.size := by
  obtain ⟨info, z, h1, h2, _⟩ := h.info
  simp [Program.cellsOf, h1, h2]

theorem lay_parts (hT : TOk P T) {G : Gh} : ∀ (fs : List (Nat × Nat)) (off : Nat) (cs : List Value) (css : List (List A)), layOk T off fs = true → css.length = fs.length →
    (∀ (i : Nat) (c : List A) (p : Nat × Nat), css[i]? = some c → fs[i]? = some p → ∀ ti, known T p.2 = some ti → c.length = ti.size ∧ RepL G c ((cs.drop p.1).take ti.size)) → layEnd T off fs ≤ cs.length → off ≤ layEnd T off fs ∧ RepL G css.flatten ((cs.drop off).take (layEnd T off fs - off))
  | [], off, cs, [], _, _, _, _ => by simp [layEnd, RepL]
  | [], off, cs, _ :: _, _, h, _, _ => by simp at h
  | _ :: _, off, cs, [], _, h, _, _ => by simp at h
  | (o, t) :: fs, off, cs, c :: css, h, hl, hp, he => by
    simp only [layOk, Bool.and_eq_true] at h
    obtain ⟨h1, h2⟩ := h
    have h1 := Nat.eq_of_beq_eq_true h1
    subst h1
    cases hk : known T t with
    | none => rw [hk] at h2; simp at h2
    | some ti =>
      rw [hk] at h2
      simp only [layEnd, hk] at he ⊢
      obtain ⟨c1, c2⟩ := hp 0 c (o, t) rfl rfl ti hk
      obtain ⟨i1, i2⟩ := lay_parts hT fs (o + ti.size) cs css h2 (by simpa using hl) (fun i c p e1 e2 => hp (i + 1) c p (by simpa using e1) (by simpa using e2)) he
      refine ⟨by omega, ?_⟩
      rw [List.flatten_cons]
      have e : (cs.drop o).take (layEnd T (o + ti.size) fs - o) = (cs.drop o).take ti.size ++ (cs.drop (o + ti.size)).take (layEnd T (o + ti.size) fs - (o + ti.size)) := by
        rw [show layEnd T (o + ti.size) fs - o = ti.size + (layEnd T (o + ti.size) fs - (o + ti.size)) from by omega, List.take_add, List.drop_drop]
      rw [e]
      exact c2.append i2

theorem seg_flatten {n s : Nat} {cs : List Value} (h : cs.length = n * s) : cs = ((List.range n).map fun i => (cs.drop (i * s)).take s).flatten := by
  induction n generalizing cs with
  | zero => simp at h; simp [h]
  | succ n ih =>
    have h' : (cs.drop s).length = n * s := by rw [List.length_drop, h, Nat.succ_mul]; omega
    have := ih h'
    rw [List.range_succ_eq_map, List.map_cons, List.flatten_cons, List.map_map]
    simp only [Nat.zero_mul, List.drop_zero]
    conv => lhs; rw [← List.take_append_drop s cs]
    congr 1
    rw [this]
    congr 1
    apply List.map_congr_left
    intro i _
    simp only [Function.comp, List.drop_drop, Nat.succ_mul]
    rw [Nat.add_comm]

theorem tyOk_one {i : TI} (h : tyOk T i = true) (hk : i.k.isAgg = false) (hno : i.k ≠ .other) : i.size = 1 := by
  unfold tyOk at h
  split at h
  · rename_i fs e; simp [e, TK.isAgg] at hk
  · rename_i n e e'; simp [e', TK.isAgg] at hk
  · simp only [Bool.and_eq_true] at h; exact Nat.eq_of_beq_eq_true h.2
  · rename_i e; exact absurd e hno
  · exact Nat.eq_of_beq_eq_true h

theorem slice_inv {t e fuel : Nat} {cs : List Value} {x : DataW H × List MemPlace} (hu : P.underlying t = some (.slice e)) (h : DataW.trod enc P w 0 (fun _ => true) true (fuel + 1) t cs = some x) :
    cs = [.slice none 0 0] ∨ ∃ (a : Addr) (len cap : Nat) (els : List (DataW H × List MemPlace)), cs = [.slice (some a) len cap] ∧ len ≤ cap ∧ cap ≤ maxLen ∧ els.length = len ∧ (∃ rest, x.1 = .slice (els.map (·.1)) rest) ∧
      ∀ i, i < len → ∃ vs y, w.cells? 0 (a.add (i * P.cellsOf e)) (P.cellsOf e) = some vs ∧ DataW.trod enc P w 0 (fun _ => true) true fuel e vs = some y ∧ y ∈ els := by
  rcases DataW.trod_slice hu h with ⟨h0, _⟩ | ⟨a, len, cap, elems, rest, n, hn, hcs, hx0, _, hlc, hcm, hel, hall, _⟩
  · exact .inl h0
  · obtain rfl : n = fuel := by omega
    refine .inr ⟨a, len, cap, elems, hcs, hlc, hcm, hel, ⟨_, by rw [hx0]⟩, fun i hi => ?_⟩
    have hx := hall i hi
    rw [List.getElem?_eq_getElem (by omega)] at hx
    obtain ⟨vs, hv, hy⟩ := Option.bind_eq_some_iff.1 hx
    exact ⟨vs, _, hv, hy, List.getElem_mem _⟩

theorem weightsAll_mem {e : TypeId} : ∀ {ds : List (DataW H)} {d : DataW H}, d ∈ ds → ∀ z ∈ DataW.weights P e d, z ∈ DataW.weightsAll P e ds
  | [], _, h, _, _ => by cases h
  | d0 :: ds, d, h, z, hz => by
    simp only [DataW.weightsAll, List.mem_append]
    rcases List.mem_cons.1 h with rfl | h
    · exact .inl hz
    · exact .inr (weightsAll_mem h z hz)
theorem weightsEach_mem : ∀ {ts : List TypeId} {ds : List (DataW H)} {i : Nat} {t : TypeId} {d : DataW H}, ts[i]? = some t → ds[i]? = some d → ∀ z ∈ DataW.weights P t d, z ∈ DataW.weightsEach P ts ds
  | [], _, _, _, _, h, _, _, _ => by simp at h
  | _ :: _, [], _, _, _, _, h, _, _ => by simp at h
  | t0 :: ts, d0 :: ds, 0, t, d, h, h', z, hz => by
    simp at h h'; subst h; subst h'
    simp only [DataW.weightsEach, List.mem_append]
    exact .inl hz
  | t0 :: ts, d0 :: ds, i + 1, t, d, h, h', z, hz => by
    simp only [DataW.weightsEach, List.mem_append]
    exact .inr (weightsEach_mem (i := i) (by simpa using h) (by simpa using h') z hz)
theorem bytesOf_eq {t : Nat} {i : TI} (h : TG P t i) : P.bytesOf t = i.bytes := by
  obtain ⟨info, z, h1, h2, h3, _⟩ := h.info
  simp [Program.bytesOf, h1, h3]
theorem trod_rep (hT : TOk P T) {S : List Nat} (hS : closedS T S = true) : ∀ (fuel t : Nat) (cs : List Value) (y : DataW H × List MemPlace), t ∈ S → DataW.trod enc P w 0 (fun _ => true) true fuel t cs = some y → (∀ z ∈ DataW.weights P t y.1, z ≤ reachBytes) →
    ∃ x i, known T t = some i ∧ Good T fuel t x ∧ x.cs.length = i.size ∧ RepL (G0 w) x.cs cs ∧ (i.k.isAgg = true → ∃ l, x = .agg l) ∧ (i.k.isAgg = false → x.cs = [x])
  | 0, t, cs, y, _, h, _ => by simp [DataW.trod] at h
  | fuel + 1, t, cs, y, htS, h, hwt => by
    have hst := (List.all_eq_true.1 hS) t htS
    cases hk : known T t with
    | none => rw [hk] at hst; simp at hst
    | some ti =>
      rw [hk] at hst
      simp only [Bool.and_eq_true] at hst
      obtain ⟨hty, hst⟩ := hst
      obtain ⟨k1, k2⟩ := known_spec hk
      have hg := hT.get k1 k2
      have hko : kindOf T t = some ti.k := by simp [kindOf, hk]
      simp only [Good, hko]
      cases hkk : ti.k with
      | int k =>
        obtain ⟨n, rfl, _, hwf⟩ := DataW.trod_int (und_int hg hkk) h
        exact ⟨.int k n, ti, rfl, ⟨n, rfl, hwf⟩, by rw [tyOk_one hty (by rw [hkk]; rfl) k2]; rfl, .cons rfl .nil, by simp [hkk, TK.isAgg], fun _ => rfl⟩
      | bool =>
        obtain ⟨b, rfl, _⟩ := DataW.trod_bool (kindOf_bool hT (by rw [hko, hkk])) h
        exact ⟨.bool b, ti, rfl, ⟨b, rfl⟩, by rw [tyOk_one hty (by rw [hkk]; rfl) k2]; rfl, .cons rfl .nil, by simp [hkk, TK.isAgg], fun _ => rfl⟩
      | string =>
        obtain ⟨s, rfl, _, hs⟩ := DataW.trod_string (und_string hg hkk) h
        exact ⟨.str s, ti, rfl, ⟨s, rfl, hs⟩, by rw [tyOk_one hty (by rw [hkk]; rfl) k2]; rfl, .cons rfl .nil, by simp [hkk, TK.isAgg], fun _ => rfl⟩
      | slice e =>
        rw [hkk] at hst
        have heS : e ∈ S := by simpa using hst
        have h1 := tyOk_one hty (by rw [hkk]; rfl) k2
        rcases slice_inv (und_slice hg hkk) h with rfl | ⟨a, len, cap, els, rfl, hlc, hcm, hel, ⟨spr, hyx⟩, hall⟩
        · exact ⟨.psl 0 [], ti, rfl, ⟨[], rfl, ⟨Nat.zero_le _, fun _ _ => by simp⟩, by simp⟩, by rw [h1]; rfl, .cons ⟨none, 0, rfl, Nat.le_refl _, by simp, [], rfl, .inl rfl⟩ .nil, by simp [hkk, TK.isAgg], fun _ => rfl⟩
        · have hei : ∃ ei, known T e = some ei ∧ 0 < ei.size := by
            have hty' := hty
            simp only [tyOk, hkk, Bool.and_eq_true] at hty'
            cases hke : known T e with
            | none => rw [hke] at hty'; simp at hty'
            | some ei => rw [hke] at hty'; exact ⟨ei, rfl, by simpa using hty'.1⟩
          obtain ⟨ei, hke, hpos⟩ := hei
          obtain ⟨e1, e2⟩ := known_spec hke
          have hce := cellsOf_eq (hT.get e1 e2)
          rw [hyx] at hwt
          simp only [DataW.weights, und_slice hg hkk, List.mem_cons, List.mem_append, List.length_map, bytesOf_eq (hT.get e1 e2)] at hwt
          have hbig : len * ei.bytes ≤ reachBytes := Nat.le_trans (by rw [← hel]; exact Nat.mul_le_mul_right _ (Nat.le_add_right _ _)) (hwt _ (.inl rfl))
          -- each element
          obtain ⟨xs, hxl, hxs⟩ := choose_list (n := len) (R := fun i (q : A × List Value) => Good T fuel e q.1 ∧ q.1.cs.length = ei.size ∧ RepL (G0 w) q.1.cs q.2 ∧ w.cells? 0 (a.add (i * ei.size)) ei.size = some q.2) (fun i hi => by
            obtain ⟨vs, y', h1, h2, h3⟩ := hall i hi
            rw [hce] at h1
            obtain ⟨x, i', g0, g1, g2, g3, _⟩ := trod_rep hT hS fuel e vs y' heS h2 (fun z hz => hwt z (.inr (.inl (weightsAll_mem (List.mem_map_of_mem h3) z hz))))
            obtain rfl : i' = ei := Option.some.inj (g0.symm.trans hke)
            exact ⟨(x, vs), g1, g2, g3, h1⟩)
          have hflat : RepL (G0 w) (xs.map (·.1.cs)).flatten (xs.map (·.2)).flatten := by
            refine repL_flatten_of (by simp) (fun i c v h1 h2 => ?_)
            rw [List.getElem?_map] at h1 h2
            cases hq : xs[i]? with
            | none => rw [hq] at h1; simp at h1
            | some q => rw [hq] at h1 h2; simp at h1 h2; subst h1; subst h2; exact (hxs i q hq).2.2.1
          refine ⟨.psl len (xs.map (·.1.cs)).flatten, ti, rfl, ⟨xs.map (·.1.cs), by simp [hxl], ⟨by simp [hxl]; omega, fun ei' he' => by rw [hke] at he'; cases he'; rw [List.length_map, hxl]; exact hbig⟩, ?_⟩, by rw [h1]; rfl, .cons ⟨some a, cap, rfl, hlc, by simp, (xs.map (·.2)).flatten, hflat, ?_⟩ .nil, by simp [hkk, TK.isAgg], fun _ => rfl⟩
          · intro c hc
            obtain ⟨q, hq, rfl⟩ := List.mem_map.1 hc
            obtain ⟨i, hi⟩ := List.getElem?_of_mem hq
            exact ⟨q.1, (hxs i q hi).1, rfl⟩
          · rcases Nat.eq_zero_or_pos len with h0 | h0
            · subst h0
              left
              have : xs = [] := List.eq_nil_of_length_eq_zero hxl
              simp [this]
            · right
              -- the elements' cells lie one behind the other
              obtain ⟨q0, hq0⟩ : ∃ q, xs[0]? = some q := ⟨xs[0], List.getElem?_eq_getElem (by omega)⟩
              have hsp : a = ⟨a.block, a.off, none⟩ := by
                have h := (hxs 0 q0 hq0).2.2.2
                rw [Nat.zero_mul] at h
                have ha0 : a.add 0 = a := by unfold Addr.add; rw [if_pos rfl]
                rw [ha0] at h
                exact (cells_at h hpos).2.1
              refine ⟨a.block, a.off, by rw [← hsp], ?_⟩
              have key : ∀ m, m ≤ len → At (G0 w) a.block a.off ((xs.take m).map (·.2)).flatten ∧ ((xs.take m).map (·.2)).flatten.length = m * ei.size := by
                intro m
                induction m with
                | zero => intro _; simp [At]
                | succ m ih =>
                  intro hm
                  obtain ⟨i1, i2⟩ := ih (by omega)
                  obtain ⟨q, hq⟩ : ∃ q, xs[m]? = some q := ⟨xs[m], List.getElem?_eq_getElem (by omega)⟩
                  have hqm := (hxs m q hq).2.2.2
                  rw [hsp, addr_add] at hqm
                  obtain ⟨c1, _, c3⟩ := cells_at hqm hpos
                  simp only at c3
                  have e : (xs.take (m + 1)).map (·.2) = (xs.take m).map (·.2) ++ [q.2] := by
                    rw [List.take_add_one, hq]; simp
                  rw [e, List.flatten_append]
                  simp only [List.flatten_cons, List.flatten_nil, List.append_nil]
                  refine ⟨?_, by rw [List.length_append, i2, c1, Nat.succ_mul]⟩
                  obtain ⟨u, hu⟩ := i1
                  obtain ⟨u', hu'⟩ := c3
                  refine ⟨u', ?_⟩
                  have e3 : u = ((G0 w).Z a.block).drop (a.off + m * ei.size) := by
                    rw [← List.drop_drop, ← hu, ← i2, List.drop_left]
                  rw [List.append_assoc, hu', ← e3, hu]
              have := (key len (Nat.le_refl _)).1
              rwa [List.take_of_length_le (by omega)] at this
      | struct fs =>
        rw [hkk] at hst
        obtain ⟨gs, hu, hgs⟩ := und_struct (t := t) (fs := fs) (s := ti.size) (b := ti.bytes) (z := ti.zero) (by rw [← hkk]; exact hg)
        obtain ⟨xs, m, hm, hyx, hcl, hxl, hall⟩ := DataW.trod_struct hu h
        rw [hyx] at hwt
        simp only [DataW.weights, hu] at hwt
        obtain rfl : m = fuel := by omega
        rw [cellsOf_eq hg] at hcl
        have hfs : fs.length = gs.size := by rw [← hgs]; simp
        have hty' := hty
        simp only [tyOk, hkk, Bool.and_eq_true] at hty'
        obtain ⟨hlay, hend⟩ := hty'
        have hend := Nat.eq_of_beq_eq_true hend
        obtain ⟨ys, hyl, hys⟩ := choose_list (n := fs.length) (R := fun i (q : A) => ∀ p, fs[i]? = some p → Good T m p.2 q ∧ ∀ tj, known T p.2 = some tj → q.cs.length = tj.size ∧ RepL (G0 w) q.cs ((cs.drop p.1).take tj.size)) (fun i hi => by
          obtain ⟨p, hp⟩ : ∃ p, fs[i]? = some p := ⟨fs[i], List.getElem?_eq_getElem hi⟩
          obtain ⟨f, hf, hfo, hft⟩ := und_struct_field hgs (f := i) (off := p.1) (t := p.2) hp
          have hx := hall i f hf
          have hxi : ∃ y, xs[i]? = some y := ⟨xs[i]'(by omega), List.getElem?_eq_getElem (by omega)⟩
          obtain ⟨y', hy'⟩ := hxi
          rw [hy', hft, hfo] at hx
          have hpS : p.2 ∈ S := by
            have := List.all_eq_true.1 hst p (List.mem_of_getElem? hp)
            simpa using this
          obtain ⟨x, i', g0, g1, g2, g3, _⟩ := trod_rep hT hS m p.2 _ y' hpS hx (fun z hz => hwt z (weightsEach_mem (i := i) (by rw [List.getElem?_map]; rw [← Array.getElem?_toList] at hf; rw [hf]; simp [hft]) (by rw [List.getElem?_map, hy']; rfl) z hz))
          refine ⟨x, fun p' hp' => ?_⟩
          obtain rfl : p = p' := Option.some.inj (hp.symm.trans hp')
          refine ⟨g1, fun tj htj => ?_⟩
          obtain rfl : i' = tj := Option.some.inj (g0.symm.trans htj)
          obtain ⟨q1, q2⟩ := known_spec g0
          rw [cellsOf_eq (hT.get q1 q2)] at g3
          exact ⟨g2, g3⟩)
        have hlp := lay_parts hT (G := G0 w) fs 0 cs (ys.map A.cs) hlay (by simp [hyl]) (fun i c p h1 h2 tj htj => by
          rw [List.getElem?_map] at h1
          cases hq : ys[i]? with
          | none => rw [hq] at h1; simp at h1
          | some q => rw [hq] at h1; simp at h1; subst h1; exact (hys i q hq p h2).2 tj htj) (by rw [hend, hcl]; exact Nat.le_refl _)
        rw [hend, ← hcl, Nat.sub_zero, List.drop_zero, List.take_length] at hlp
        have hlen := hlp.2.length
        refine ⟨.agg (ys.map A.cs).flatten, ti, rfl, ⟨ys.map A.cs, rfl, by simp [hyl], fun i c p h1 h2 => ?_⟩, by rw [← hcl, hlen]; rfl, hlp.2, fun _ => ⟨_, rfl⟩, by simp [hkk, TK.isAgg]⟩
        rw [List.getElem?_map] at h1
        cases hq : ys[i]? with
        | none => rw [hq] at h1; simp at h1
        | some q => rw [hq] at h1; simp at h1; subst h1; exact ⟨q, (hys i q hq p h2).1, rfl⟩
      | array n e =>
        rw [hkk] at hst
        have heS : e ∈ S := by simpa using hst
        have hty' := hty
        simp only [tyOk, hkk] at hty'
        cases hke : known T e with
        | none => rw [hke] at hty'; simp at hty'
        | some ei =>
          rw [hke] at hty'
          simp only [Bool.and_eq_true] at hty'
          have hsz := Nat.eq_of_beq_eq_true hty'.1
          obtain ⟨e1, e2⟩ := known_spec hke
          have hce := cellsOf_eq (hT.get e1 e2)
          have hu : P.underlying t = some (.array n e) := und_array (t := t) (n := n) (e := e) (s := ti.size) (b := ti.bytes) (z := ti.zero) (by rw [← hkk]; exact hg)
          obtain ⟨xs, m, hm, hyx, hcl, hxl, hall⟩ := DataW.trod_array hu h
          rw [hyx] at hwt
          simp only [DataW.weights, hu] at hwt
          obtain rfl : m = fuel := by omega
          rw [cellsOf_eq hg] at hcl
          obtain ⟨ys, hyl, hys⟩ := choose_list (n := n) (R := fun i (q : A) => Good T m e q ∧ q.cs.length = ei.size ∧ RepL (G0 w) q.cs ((cs.drop (i * ei.size)).take ei.size)) (fun i hi => by
            have hx := hall i hi
            obtain ⟨y', hy'⟩ : ∃ y, xs[i]? = some y := ⟨xs[i]'(by omega), List.getElem?_eq_getElem (by omega)⟩
            rw [hy', hce] at hx
            obtain ⟨x, i', g0, g1, g2, g3, _⟩ := trod_rep hT hS m e _ y' heS hx (fun z hz => hwt z (weightsAll_mem (List.mem_map_of_mem (List.mem_of_getElem? hy')) z hz))
            obtain rfl : i' = ei := Option.some.inj (g0.symm.trans hke)
            exact ⟨x, g1, g2, g3⟩)
          have hcs : cs = ((List.range n).map fun i => (cs.drop (i * ei.size)).take ei.size).flatten := seg_flatten (by rw [hcl, hsz])
          have hrep : RepL (G0 w) (ys.map A.cs).flatten cs := by
            rw [hcs]
            refine repL_flatten_of (by simp [hyl]) (fun i c v h1 h2 => ?_)
            rw [List.getElem?_map] at h1 h2
            cases hq : ys[i]? with
            | none => rw [hq] at h1; simp at h1
            | some q =>
              have hi : i < n := by rw [← hyl]; exact (List.getElem?_eq_some_iff.1 hq).1
              rw [hq] at h1; simp at h1; subst h1
              simp [hi] at h2; subst h2
              exact (hys i q hq).2.2
          refine ⟨.agg (ys.map A.cs).flatten, ti, rfl, ⟨ys.map A.cs, rfl, by simp [hyl], fun c hc => ?_⟩, by rw [← hcl, hrep.length]; rfl, hrep, fun _ => ⟨_, rfl⟩, by simp [hkk, TK.isAgg]⟩
          obtain ⟨q, hq, rfl⟩ := List.mem_map.1 hc
          obtain ⟨i, hi⟩ := List.getElem?_of_mem hq
          exact ⟨q, (hys i q hi).1, rfl⟩
      | _ => rw [hkk] at hst; simp at hst

theorem not_agg (hT : TOk P T) {t : Nat} {i : TI} (hk : known T t = some i) (ha : i.k.isAgg = false) (hs : (match i.k with | .int _ | .bool | .string | .slice _ => true | _ => false) = true) {base : Nat} {cs : Array Value} (h : Value.okWide P w .any base t (.agg cs)) : False := by
  obtain ⟨k1, k2⟩ := known_spec hk
  have hg := hT.get k1 k2
  obtain ⟨d, hu, hd⟩ := hg.und
  cases hkk : i.k <;> simp [hkk] at hs <;> rw [hkk] at hd <;> cases d <;> simp [tkOf] at hd <;> simp [Value.okWide, hu, Cell.okWide, Cell.ok] at h

theorem val_rep (hT : TOk P T) {S : List Nat} (hS : closedS T S = true) {t : Nat} (htS : t ∈ S) {base : Nat} {v : Value} (hv : Value.okWide P w .any base t v) {d : DataW H} {p : List MemPlace} (h : DataW.Trod enc P w 0 (fun _ => true) true t v d p) (hwt : ∀ z ∈ DataW.weights P t d, z ≤ reachBytes) :
    ∃ x fuel, Good T fuel t x ∧ Rep (G0 w) x v := by
  obtain ⟨fuel, hf⟩ := h
  obtain ⟨x, i, hk, hg, hl, hr, h1, h2⟩ := trod_rep hT hS fuel t _ _ htS hf hwt
  refine ⟨x, fuel, hg, ?_⟩
  have hst := (List.all_eq_true.1 hS) t htS
  rw [hk] at hst
  simp only [Bool.and_eq_true] at hst
  obtain ⟨k1, k2⟩ := known_spec hk
  have hgt := hT.get k1 k2
  cases ha : i.k.isAgg with
  | true =>
    obtain ⟨l, rfl⟩ := h1 ha
    obtain ⟨ds, hu, hd⟩ := hgt.und
    have : ∃ cs, v = .agg cs := by
      rw [← hd] at ha
      cases ds <;> simp [tkOf, TK.isAgg] at ha
      · simp only [Value.okWide, hu] at hv; obtain ⟨cs, e, _⟩ := hv; exact ⟨cs, e⟩
      · simp only [Value.okWide, hu] at hv; obtain ⟨cs, e, _⟩ := hv; exact ⟨cs, e⟩
    obtain ⟨cs, rfl⟩ := this
    exact ⟨cs.toList, by simp, hr⟩
  | false =>
    have e := h2 ha
    rw [e] at hr
    obtain ⟨u, us, e1, hu, e2⟩ := hr
    simp only [RepL] at e2
    subst e2
    have : v = u := by
      cases v with
      | agg cs =>
        refine absurd hv (fun hv => not_agg hT hk ha ?_ hv)
        have := hst.2
        cases hkk : i.k <;> simp [hkk, TK.isAgg] at this ha ⊢
      | _ => simp [Value.cells] at e1; exact e1
    rw [this]; exact hu

/-- Arguments that are good, each for its type. -/
def GoodL (T : List TI) : List Nat → List A → Prop
  | [], as => as = []
  | t :: ts, as => ∃ x xs, as = x :: xs ∧ (∃ fuel, Good T fuel t x) ∧ GoodL T ts xs

theorem args_rep (hT : TOk P T) {S : List Nat} (hS : closedS T S = true) {base : Nat} : ∀ {ts : List Nat} {vs : List Value} {ds : List (DataW H)} {p : List MemPlace}, (∀ t ∈ ts, t ∈ S) → (∀ (j : Nat) t v, ts[j]? = some t → vs[j]? = some v → Value.okWide P w .any base t v) →
    DataW.TrodAll enc P w 0 (fun _ => true) true ts vs ds p → (∀ z ∈ DataW.weightsEach P ts ds, z ≤ reachBytes) → ∃ as, GoodL T ts as ∧ RepL (G0 w) as vs
  | [], vs, ds, p, _, _, h, _ => by
    obtain ⟨rfl, _, _⟩ := trodAll_nil h
    exact ⟨[], rfl, rfl⟩
  | t :: ts, vs, ds, p, hS', hv, h, hwt => by
    obtain ⟨v, vs', d, ds', q, r, rfl, rfl, rfl, h1, h2⟩ := trodAll_cons h
    obtain ⟨x, fuel, g1, g2⟩ := val_rep hT hS (hS' t (by simp)) (hv 0 t v rfl rfl) h1 (fun z hz => hwt z (by simp only [DataW.weightsEach, List.mem_append]; exact .inl hz))
    obtain ⟨as, g3, g4⟩ := args_rep hT hS (fun u hu => hS' u (by simp [hu])) (fun j u z e1 e2 => hv (j + 1) u z (by simpa using e1) (by simpa using e2)) h2 (fun z hz => hwt z (by simp only [DataW.weightsEach, List.mem_append]; exact .inr hz))
    exact ⟨x :: as, ⟨x, as, rfl, ⟨fuel, g1⟩, g3⟩, .cons g2 g4⟩

/-- What a law's contract gives for any arguments that read as data. -/
theorem law_walk (hT : TOk P T) {S : List Nat} (hS : closedS T S = true) {f : FuncId} {params : List Nat} (hp : (params.all fun t => S.contains t) = true) (h : ∀ as, GoodL T params as → ACalls P f as [] (fun r _ => r = .bool true))
    {base : Nat} {args : Array Value} {ds : List (DataW H)} {p : List MemPlace} (hv : ∀ (j : Nat) t v, params[j]? = some t → args[j]? = some v → Value.okWide P w .any base t v) (hA : DataW.TrodAll enc P w 0 (fun _ => true) true params args.toList ds p) (hwt : (DataW.weightsEach P params ds).all (· ≤ reachBytes) = true) :
    Calls P f args w fun e w' => e = .returned (.bool true) ∧ Below w.heap.size w w' := by
  obtain ⟨as, h1, h2⟩ := args_rep hT hS (fun t ht => by have := List.all_eq_true.1 hp t ht; simpa using this) (fun j t v e1 e2 => hv j t v e1 (by simpa using e2)) hA (fun z hz => by simpa using List.all_eq_true.1 hwt z hz)
  have hc := h as h1 (G0 w) w args.toList (ok_init w) h2
  rw [Array.toArray_toList] at hc
  refine hc.mono ?_
  rintro e w' ⟨v, r, M', G', rfl, hr, hok, rfl⟩
  simp only [Rep] at hr
  exact ⟨by rw [hr], below_of_ok hok⟩

theorem trodAll_stays (hl : laidOutB P = true) {w' : World} (hb : Below w.heap.size w w') : ∀ {ts : List Nat} {vs : List Value} {ds : List (DataW H)} {p : List MemPlace}, (ts.all fun t => P.readableRec t && decide (t < P.types.size)) = true →
    DataW.TrodAll enc P w 0 (fun _ => true) true ts vs ds p → (∀ x ∈ p, x.block < w.heap.size) → DataW.TrodAll enc P w' 0 (fun b => decide (b < w.heap.size)) true ts vs ds p
  | [], vs, ds, p, _, h, _ => by
    obtain ⟨rfl, rfl, rfl⟩ := trodAll_nil h
    exact trodAll_mk0
  | t :: ts, vs, ds, p, hr, h, hlt => by
    obtain ⟨v, vs', d, ds', q, r, rfl, rfl, rfl, h1, h2⟩ := trodAll_cons h
    simp only [List.all_cons, Bool.and_eq_true, decide_eq_true_eq] at hr
    exact trodAll_cons_mk (Below.trod hl hr.1.1 hr.1.2 h1 hb (fun x hx => hlt x (by simp [hx]))) (trodAll_stays hl hb hr.2 h2 (fun x hx => hlt x (by simp [hx])))
end
end Go.Proofs.Ytafncdbkbmaifaa.Ab

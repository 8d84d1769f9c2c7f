/- Chapter 3 in plain terms: sets of bytes as numbers of 256 bits, and how a pattern is read. No condition. -/
set_option linter.unusedVariables false
namespace Go.Proofs.Ytafncdbkbmaifaa.Ab

/-! ### sets of bytes -/
def setAdd (S c : Nat) : Nat := S ||| 2 ^ c
def setAll : Nat := 2 ^ 256 - 1
def setNot (S : Nat) : Nat := S ^^^ setAll
def wordOf (S i : Nat) : Nat := (S / 2 ^ (64 * i)) % 2 ^ 64

/-! ### patterns -/
inductive RE where
  | mk (op : Int) (set : Nat) (kids : List RE)
def RE.op : RE → Int
  | .mk o _ _ => o
def RE.set : RE → Nat
  | .mk _ s _ => s
def RE.kids : RE → List RE
  | .mk _ _ k => k
def reNone : RE := .mk 0 0 []
def reSet (S : Nat) : RE := .mk 1 S []
def reMany (op : Int) : List RE → RE
  | [] => reNone
  | [x] => x
  | l => .mk op 0 l

/-! ### the reader -/
structure Rd where
  at_ : Nat
  e : Int
  w : Nat
def Rd.fail (r : Rd) (e : Int) : Rd := if r.e = 0 then ⟨r.at_, e, r.at_⟩ else r
def Rd.is (s : List Int) (r : Rd) (c : Int) : Bool := decide (r.e = 0) && (match s[r.at_]? with | some x => decide (x = c) | none => false)
def Rd.next (r : Rd) : Rd := ⟨r.at_ + 1, r.e, r.w⟩
def Rd.any (s : List Int) (r : Rd) : Int × Rd := if r.e = 0 then (match s[r.at_]? with | some x => (x, r.next) | none => (0, r.fail 2)) else (0, r)
def Rd.member (s : List Int) (r : Rd) : Int × Rd :=
  if r.is s 92 then r.next.any s else if r.is s 93 then (r.fail 2).any s else r.any s
def Rd.between (s : List Int) (r : Rd) : Bool := r.is s 45 && (match s[r.at_ + 1]? with | some x => decide (x ≠ 93) | none => false)
/-- From one byte up to another one. -/
def addRange (S : Nat) : (n : Nat) → (from_ : Nat) → Nat
  | 0, _ => S
  | n + 1, a => addRange (setAdd S a) n (a + 1)
def Rd.item (s : List Int) (S : Nat) (r : Rd) : Nat × Rd :=
  let (a, r1) := r.member s
  let (b, r2) := if r1.between s then
      let r' := r1.next
      let (b, r2) := r'.member s
      if r2.e = 0 ∧ b < a then (b, Rd.fail ⟨r'.at_, r2.e, r2.w⟩ 2) else (b, r2)
    else (a, r1)
  (if r2.e = 0 then addRange S (b + 1 - a).toNat a.toNat else S, r2)
def classL (s : List Int) : Nat → Nat → Rd → Nat × Rd
  | 0, S, r => (S, r)
  | f + 1, S, r => if r.e ≠ 0 then (S, r) else if r.is s 93 then (S, r.next) else let (S', r') := r.item s S; classL s f S' r'
def Rd.class_ (s : List Int) (r : Rd) : RE × Rd :=
  let other := r.is s 94
  let r0 := if other then r.next else r
  let (S1, r1) := r0.item s 0
  let (S2, r2) := classL s (s.length + 1) S1 r1
  (reSet (if other then setNot S2 else S2), r2)
def specials : List Int := [124, 42, 43, 63, 40, 41, 91, 93]
def setDot : Nat := setNot (setAdd 0 10)
def reOne (c : Int) : RE := reSet (setAdd 0 c.toNat)
mutual
def atomF (s : List Int) : Nat → Nat → Rd → RE × Rd
  | 0, _, r => (reNone, r)
  | f + 1, d, r =>
    if r.is s 40 then
      if 20 ≤ d then (reNone, r.fail 4)
      else let (x, r1) := altF s f (d + 1) r.next
        (x, if r1.is s 41 then r1.next else r1.fail 2)
    else if r.is s 46 then (reSet setDot, r.next)
    else if r.is s 92 then let (c, r1) := r.next.any s; (reOne c, r1)
    else if r.is s 91 then r.next.class_ s
    else
      let r0 := if (match s[r.at_]? with | some x => specials.contains x | none => false) then r.fail 2 else r
      let (c, r1) := r0.any s
      (reOne c, r1)
def repF (s : List Int) : Nat → RE → Rd → RE × Rd
  | 0, x, r => (x, r)
  | f + 1, x, r => if r.is s 42 then repF s f (.mk 4 0 [x]) r.next else if r.is s 43 then repF s f (.mk 5 0 [x]) r.next else if r.is s 63 then repF s f (.mk 6 0 [x]) r.next else (x, r)
def partP (s : List Int) : Nat → Nat → Rd → RE × Rd
  | 0, _, r => (reNone, r)
  | f + 1, d, r => let (x, r1) := atomF s f d r; repF s (s.length + 1) x r1
def seqL (s : List Int) : Nat → Nat → List RE → Rd → List RE × Rd
  | 0, _, l, r => (l, r)
  | f + 1, d, l, r => if r.e = 0 ∧ r.at_ < s.length ∧ r.is s 124 = false ∧ r.is s 41 = false then let (x, r1) := partP s f d r; seqL s f d (l ++ [x]) r1 else (l, r)
def seqF (s : List Int) : Nat → Nat → Rd → RE × Rd
  | 0, _, r => (reNone, r)
  | f + 1, d, r => let (l, r1) := seqL s f d [] r; (reMany 2 l, r1)
def altL (s : List Int) : Nat → Nat → List RE → Rd → List RE × Rd
  | 0, _, l, r => (l, r)
  | f + 1, d, l, r => if r.is s 124 then let (x, r1) := seqF s f d r.next; altL s f d (l ++ [x]) r1 else (l, r)
def altF (s : List Int) : Nat → Nat → Rd → RE × Rd
  | 0, _, r => (reNone, r)
  | f + 1, d, r => let (x, r1) := seqF s f d r; let (l, r2) := altL s f d [x] r1; (reMany 3 l, r2)
end
def fuelP (s : List Int) : Nat := 8 * s.length + 16
def parseP (s : List Int) : RE × Nat × Int :=
  if 200 < s.length then (reNone, 0, 3) else
    let (x, r) := altF s (fuelP s) 0 ⟨0, 0, 0⟩
    let r' := if r.at_ < s.length then r.fail 2 else r
    if r'.e = 0 then (x, s.length, 0) else (reNone, r'.w, r'.e)
end Go.Proofs.Ytafncdbkbmaifaa.Ab

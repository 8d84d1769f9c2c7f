/- Rings of nodes, in plain terms. No condition. -/
import Derived.Test.YtnlmfhnjjblhoaaFor8
set_option linter.unusedVariables false
set_option linter.unusedSimpArgs false
namespace Go.Proofs.Ytnlmfhnjjblhoaa.Ab
def nextK (n j : Nat) : Int := if j + 1 < n then (j : Int) + 1 else -1
def altR (n j : Nat) : Al := ⟨0, [nextK n j]⟩
/-- A row of nodes, each with the next one; one of them with more Alts. -/
def ringN (n fr : Nat) (ex : List Al) : Fo := ⟨(List.range n).map fun j => ⟨0, 0, 0, altR n j :: (if j = fr then ex else [])⟩, 0⟩
theorem ring_len (n fr : Nat) (ex : List Al) : (ringN n fr ex).nodes.length = n := by simp [ringN]
theorem ring_alts {n fr : Nat} {ex : List Al} {i : Nat} (hi : i < n) : altsOf (ringN n fr ex) i = altR n i :: (if i = fr then ex else []) := by
  simp [altsOf, ringN, List.getElem?_range hi]
theorem ring_kid {n fr : Nat} {ex : List Al} {i : Nat} (hi : i < n) {k : Int} (h : Kid (ringN n fr ex) i k) : k = nextK n i ∨ (i = fr ∧ ∃ a ∈ ex, k ∈ a.kids) := by
  obtain ⟨a, ha, hk⟩ := h
  rw [ring_alts hi] at ha
  simp only [List.mem_cons] at ha
  rcases ha with rfl | ha
  · simp [altR] at hk; exact .inl hk
  · split at ha
    · exact .inr ⟨‹_›, a, ha, hk⟩
    · simp at ha
theorem ring_next {n fr : Nat} {ex : List Al} {i : Nat} (hi : i + 1 < n) : Kid (ringN n fr ex) i ((i + 1 : Nat) : Int) :=
  ⟨altR n i, by rw [ring_alts (by omega)]; simp, by simp [altR, nextK, hi]⟩
theorem ring_wf {n fr : Nat} {ex : List Al} (hex : ∀ a ∈ ex, ∀ k ∈ a.kids, (fr : Int) < k ∧ k < n) : ∀ (d i : Nat), i + d + 1 = n → WF (ringN n fr ex) i := by
  intro d
  induction d using Nat.strongRecOn with
  | ind d ih =>
    intro i hi
    refine .mk (by rw [ring_len]; omega) (fun k hk => ?_) fun k hk => ?_
    · rw [ring_len]
      rcases ring_kid (by omega) hk with rfl | ⟨rfl, a, ha, hk⟩
      · unfold nextK; split <;> omega
      · exact (hex a ha k hk).2
    · rcases ring_kid (by omega) hk with h | ⟨rfl, a, ha, hk⟩
      · unfold nextK at h
        split at h
        · exact ih (n - k - 1) (by omega) k (by omega)
        · omega
      · have := hex a ha k hk
        exact ih (n - k - 1) (by omega) k (by omega)
theorem ring_form {n fr : Nat} {ex : List Al} (hn : 0 < n) (hex : ∀ a ∈ ex, ∀ k ∈ a.kids, (fr : Int) < k ∧ k < n) : FForm (ringN n fr ex) :=
  ⟨⟨by simp [ringN], by rw [ring_len]; simp [ringN]; omega⟩, fun i hi => by rw [ring_len] at hi; exact ring_wf hex (n - i - 1) i (by omega)⟩
theorem ring_depth {n fr : Nat} : ∀ (d i : Nat), i + d + 1 = n → depth (ringN n fr []) i = d + 1 := by
  intro d
  induction d with
  | zero =>
    intro i hi
    rw [depth_eq (ring_wf (by simp) 0 i hi), ring_alts (by omega)]
    simp [depA, depK, altR, nextK, show ¬ i + 1 < n by omega]
  | succ d ih =>
    intro i hi
    rw [depth_eq (ring_wf (by simp) (d + 1) i hi), ring_alts (by omega)]
    have := ih (i + 1) (by omega)
    have e : ((i : Int) + 1).toNat = i + 1 := by omega
    simp [depA, depK, altR, nextK, show i + 1 < n by omega, show (0 : Int) ≤ (i : Int) + 1 by omega, e, this]
    omega
theorem ring_no {n fr to : Nat} (hfr : fr < n) (hto : to ≤ fr) : ¬ FForm (ringN n fr [⟨0, [(to : Int)]⟩]) := by
  intro h
  have hwf := h.2 fr (by rw [ring_len]; exact hfr)
  have hk : Kid (ringN n fr [⟨0, [(to : Int)]⟩]) fr (to : Int) := ⟨⟨0, [(to : Int)]⟩, by rw [ring_alts hfr]; simp, by simp⟩
  have : ∀ d, to + d ≤ fr → Rch (ringN n fr [⟨0, [(to : Int)]⟩]) fr (to + d) := by
    intro d
    induction d with
    | zero => intro _; exact .one hk
    | succ d ih => intro hd; exact (ih (by omega)).snoc (ring_next (i := to + d) (by omega))
  have h2 := this (fr - to) (by omega)
  rw [show to + (fr - to) = fr from by omega] at h2
  exact hwf.noring h2
theorem ring_ok {n fr : Nat} {ex : List Al} (hn : n ≤ 60) (hex : ex.length ≤ 1 ∧ ∀ a ∈ ex, a.kids.length ≤ 1) : FoOk (ringN n fr ex) := by
  refine ⟨by rw [ring_len]; omega, fun nd hnd => ?_⟩
  simp only [ringN, List.mem_map] at hnd
  obtain ⟨j, _, rfl⟩ := hnd
  refine ⟨?_, fun a ha => ?_⟩
  · simp only [List.length_cons]; split
    · omega
    · simp
  · simp only [List.mem_cons] at ha
    rcases ha with rfl | ha
    · simp [altR]
    · split at ha
      · have := hex.2 a ha; omega
      · simp at ha
end Go.Proofs.Ytnlmfhnjjblhoaa.Ab

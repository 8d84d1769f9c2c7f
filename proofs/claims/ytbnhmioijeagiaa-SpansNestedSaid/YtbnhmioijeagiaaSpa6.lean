/- Nodes within nodes: what is measured and painted of them. No condition. -/
import Derived.Test.YtbnhmioijeagiaaSpa5
set_option linter.unusedVariables false
set_option linter.unusedSimpArgs false
namespace Go.Proofs.Ytbnhmioijeagiaa.Ab
def tkN (k : Nat) : To := ⟨0, 2 * k, 1, 0, 0⟩
def tksN (n : Nat) : List To := (List.range n).map tkN
theorem tks_at {n k : Nat} (h : k < n) : (tksN n)[k]? = some (tkN k) := by simp [tksN, List.getElem?_range h]
theorem tks_len (n : Nat) : (tksN n).length = n := by simp [tksN]
def tokI (k : Nat) : It := ⟨-1, k, 0, [], [], 2 * k, 2 * k + 1⟩
def chI (n : Nat) : Nat → It
  | 0 => tokI n
  | D + 1 => ⟨((n - (D + 1) : Nat) : Int), 0, 3, encs itT [tokI (n - (D + 1)), chI n D, tokI (n + (D + 1))], encs itM [tokI (n - (D + 1)), chI n D, tokI (n + (D + 1))], 2 * ((n - (D + 1) : Nat) : Int), 2 * ((n + (D + 1) : Nat) : Int) + 1⟩
theorem chI_b {n : Nat} : ∀ {D : Nat}, D ≤ n → (chI n D).fr = 2 * n - 2 * D ∧ (chI n D).to = 2 * n + 2 * D + 1
  | 0, _ => ⟨by simp [chI, tokI], by simp [chI, tokI]⟩
  | D + 1, h => ⟨by simp only [chI]; omega, by simp only [chI]; omega⟩
theorem paN_ok {rc : List Int} {own : Int} {n : Nat} (hrc : rc.length ≤ 1000) (hn : n ≤ 1000) : PaOk (paG rc [own] (tksN n)) := by
  refine ⟨by simp only [paG]; omega, by simp [paG], by simp only [paG, tks_len]; omega, fun t ht => ?_⟩
  simp only [paG, tksN, List.mem_map, List.mem_range] at ht
  obtain ⟨k, hk, rfl⟩ := ht
  simp only [tkN]; omega
theorem tok_meas {p : Pa} (hp : PaOk p) {n k : Nat} (hts : p.ts = tksN n) (hk : k < n) : Meas p (tokI k) := by
  refine meas_tok hp rfl ⟨rfl, rfl, rfl⟩ ?_
  have : p.ts[((k : Int)).toNat]? = some (tkN k) := by rw [hts, Int.toNat_natCast]; exact tks_at hk
  show tokF p.ts (k : Int) = (2 * (k : Int), 2 * (k : Int) + 1, true)
  unfold tokF
  rw [if_neg (by rw [hts, tks_len]; omega), this]
  rfl
theorem ch_meas {p : Pa} (hp : PaOk p) {n : Nat} (hts : p.ts = tksN (2 * n + 1)) : ∀ {D : Nat}, D ≤ n → Meas p (chI n D)
  | 0, _ => tok_meas hp hts (by omega)
  | D + 1, h => by
    have := meas_node (p := p) (ks := [tokI (n - (D + 1)), chI n D, tokI (n + (D + 1))]) (r := ((n - (D + 1) : Nat) : Int)) (tk := 0) (by omega) (by simp) (by simp) (fun x hx => by
      simp only [List.mem_cons, List.not_mem_nil, or_false] at hx
      rcases hx with rfl | rfl | rfl
      · exact tok_meas hp hts (by omega)
      · exact ch_meas hp hts (by omega)
      · exact tok_meas hp hts (by omega))
    exact this
theorem tok_pnt {p : Pa} (hp : PaOk p) {n k : Nat} (hts : p.ts = tksN n) (hk : k < n) : Pnt p (tokI k) (fun c l => putF l (2 * k) (2 * k + 1) (ei (clF p.kc 0) c)) 1 :=
  paint_tok hp (x := tokI k) (t := tkN k) rfl (by simp [tokI]) (by rw [hts]; exact tks_at hk)
theorem putF_no {l : List Sp} {a b c : Int} (h : a = b) : putF l a b c = l := by unfold putF; rw [if_pos (.inl (by omega))]
theorem ch_pnt {p : Pa} (hp : PaOk p) {n : Nat} {own : Int} (hts : p.ts = tksN (2 * n + 1)) (hkc : p.kc = [own]) : ∀ {D : Nat}, D ≤ n → ∃ w, w ≤ 10 * D + 1 ∧ Pnt p (chI n D) (chP n own (fun k => clF p.rc k) D) w
  | 0, _ => by
    refine ⟨1, by omega, ?_⟩
    have := tok_pnt hp hts (k := n) (by omega)
    rw [hkc] at this
    exact this
  | D + 1, h => by
    obtain ⟨w0, hw0, ih⟩ := ch_pnt hp hts hkc (show D ≤ n by omega)
    have hcl : clF p.kc 0 = own := by rw [hkc]; rfl
    have h1 := tok_pnt hp hts (k := n - (D + 1)) (by omega)
    have h3 := tok_pnt hp hts (k := n + (D + 1)) (by omega)
    rw [hcl] at h1 h3
    obtain ⟨b1, b2⟩ := chI_b (n := n) (D := D) (by omega)
    let F : It → Int → List Sp → List Sp := fun x => if x.fr = (chI n D).fr then chP n own (fun k => clF p.rc k) D else fun c l => putF l x.fr x.to (ei own c)
    have hne1 : (tokI (n - (D + 1))).fr ≠ (chI n D).fr := by rw [b1]; simp only [tokI]; omega
    have hne3 : (tokI (n + (D + 1))).fr ≠ (chI n D).fr := by rw [b1]; simp only [tokI]; omega
    have hF1 : F (tokI (n - (D + 1))) = fun c l => putF l (2 * ((n - (D + 1) : Nat) : Int)) (2 * ((n - (D + 1) : Nat) : Int) + 1) (ei own c) := if_neg hne1
    have hF3 : F (tokI (n + (D + 1))) = fun c l => putF l (2 * ((n + (D + 1) : Nat) : Int)) (2 * ((n + (D + 1) : Nat) : Int) + 1) (ei own c) := if_neg hne3
    have hF2 : F (chI n D) = chP n own (fun k => clF p.rc k) D := if_pos rfl
    clear_value F
    have key := paint_node hp (ks := [tokI (n - (D + 1)), chI n D, tokI (n + (D + 1))]) (F := F) (w := fun x => if x.fr = (chI n D).fr then w0 else 1) (r := ((n - (D + 1) : Nat) : Int)) (tk := 0) (fr := 2 * ((n - (D + 1) : Nat) : Int)) (to := 2 * ((n + (D + 1) : Nat) : Int) + 1) (by omega) (by simp) (fun x hx => by
      simp only [List.mem_cons, List.not_mem_nil, or_false] at hx
      rcases hx with rfl | rfl | rfl
      · rw [hF1, if_neg hne1]; exact h1
      · rw [hF2, if_pos rfl]; exact ih
      · rw [hF3, if_neg hne3]; exact h3)
    refine ⟨wks (fun x => if x.fr = (chI n D).fr then w0 else 1) [tokI (n - (D + 1)), chI n D, tokI (n + (D + 1))] + 1, ?_, ?_⟩
    · simp only [wks, List.map_cons, List.map_nil, List.sum_cons, List.sum_nil, if_neg hne1, if_neg hne3, if_true]; omega
    · have e : nodeP p F [tokI (n - (D + 1)), chI n D, tokI (n + (D + 1))] ((n - (D + 1) : Nat) : Int) (2 * ((n - (D + 1) : Nat) : Int)) (2 * ((n + (D + 1) : Nat) : Int) + 1) = chP n own (fun k => clF p.rc k) (D + 1) := by
        funext cls l
        simp only [nodeP, List.foldl_cons, List.foldl_nil, kidS, hF1, hF2, hF3, chP, b1, b2]
        generalize ei (clF p.rc ((n - (D + 1) : Nat) : Int)) cls = c
        simp only [tokI]
        rw [putF_no (a := 2 * ((n - (D + 1) : Nat) : Int)) rfl, putF_no (a := 2 * ((n + (D + 1) : Nat) : Int) + 1) rfl]
        have c1 : (2 * ((n - (D + 1) : Nat) : Int)) = 2 * (n : Int) - 2 * ((D : Int) + 1) := by omega
        have c2 : (2 * ((n + (D + 1) : Nat) : Int)) = 2 * (n : Int) + 2 * ((D : Int) + 1) := by omega
        rw [c1, c2]
      rw [e] at key
      exact key
/-! ### what the law asks -/
def wv (rc : Nat → Int) : Nat → Int
  | 0 => 0
  | k + 1 => ei (rc k) (wv rc k)
def dpN (n : Nat) (b : Int) : Int := min (if b > 2 * n then (4 * n - b) / 2 else b / 2) (n - 1)
def fin (n : Nat) (own : Int) (rc : Nat → Int) (b : Int) : Int := if b % 2 = 0 ∧ own > 0 then own else wv rc ((dpN n b).toNat + 1)
theorem chK_fin (n : Nat) (own : Int) (rc : Nat → Int) (hn : 0 < n) : ∀ (D : Nat) (b : Int), D ≤ n → 2 * (n : Int) - 2 * D ≤ b → b ≤ 2 * n + 2 * D → chK n own rc D (wv rc (n - D)) b = fin n own rc b
  | 0, b, _, h1, h2 => by
    have hb : b = 2 * n := by omega
    subst hb
    have hd : dpN n (2 * n) = n - 1 := by unfold dpN; rw [if_neg (by omega)]; omega
    unfold fin
    rw [hd, show ((n : Int) - 1).toNat + 1 = n from by omega]
    simp only [chK, Nat.sub_zero]
    unfold ei
    by_cases ho : own > 0
    · rw [if_pos ho, if_pos ⟨by omega, ho⟩]
    · rw [if_neg ho, if_neg (fun h => ho h.2)]
  | D + 1, b, h, h1, h2 => by
    have hc : ei (rc (n - (D + 1))) (wv rc (n - (D + 1))) = wv rc (n - D) := by
      rw [show n - D = n - (D + 1) + 1 from by omega]; rfl
    simp only [chK, hc]
    by_cases c1 : b = 2 * (n : Int) - 2 * ((D : Int) + 1) ∨ b = 2 * n + 2 * ((D : Int) + 1)
    · rw [if_pos c1]
      have hd : dpN n b = ((n - (D + 1) : Nat) : Int) := by unfold dpN; rcases c1 with rfl | rfl <;> split <;> omega
      unfold fin ei
      rw [hd, show (((n - (D + 1) : Nat) : Int)).toNat + 1 = n - D from by omega]
      by_cases ho : own > 0
      · rw [if_pos ho, if_pos ⟨by omega, ho⟩]
      · rw [if_neg ho, if_neg (fun h => ho h.2)]
    · rw [if_neg c1]
      by_cases c2 : b = 2 * (n : Int) - 2 * ((D : Int) + 1) + 1 ∨ b = 2 * n + 2 * (D : Int) + 1
      · rw [if_pos c2]
        have hd : dpN n b = ((n - (D + 1) : Nat) : Int) := by unfold dpN; rcases c2 with rfl | rfl <;> split <;> omega
        unfold fin
        rw [hd, show (((n - (D + 1) : Nat) : Int)).toNat + 1 = n - D from by omega, if_neg (by omega)]
      · rw [if_neg c2]
        exact chK_fin n own rc hn D b (by omega) (by omega) (by omega)
theorem ch_at {n : Nat} {own : Int} {rc : Nat → Int} (hn : 0 < n) {b : Int} (h0 : 0 ≤ b) (h1 : b ≤ 4 * n) : atF (chP n own rc n 0 []) b = fin n own rc b := by
  obtain ⟨_, h⟩ := chP_spec n own rc n 0 [] (by omega) (fun s hs => by simp at hs)
  rw [h b, if_pos (by omega)]
  have := chK_fin n own rc hn n b (Nat.le_refl _) (by omega) (by omega)
  rw [Nat.sub_self] at this
  exact this
end Go.Proofs.Ytbnhmioijeagiaa.Ab

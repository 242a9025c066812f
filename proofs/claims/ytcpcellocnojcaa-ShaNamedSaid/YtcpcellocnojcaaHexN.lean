import Derived.Test.YtcpcellocnojcaaStep
namespace Go.Proofs.Ytcpcellocnojcaa
open Go.RowKit Go.Proofs.YtcpcellocnojcaaW.PrintWords
set_option linter.unusedVariables false
set_option linter.unusedSimpArgs false

/-- The sixteen digits. -/
def dig : List Int := [48, 49, 50, 51, 52, 53, 54, 55, 56, 57, 97, 98, 99, 100, 101, 102]
/-- An ID's digits. -/
def hexL : List Int → List Int
  | [] => []
  | c :: l => rd dig (c / 16) :: rd dig (c % 16) :: hexL l
/-- A digit's number. -/
def hexv (c : Int) : Int := if 48 ≤ c ∧ c ≤ 57 then c - 48 else if 97 ≤ c ∧ c ≤ 102 then c - 87 else -1
/-- The bytes of digits. -/
def pairs : List Int → List Int
  | a :: b :: l => (16 * hexv a + hexv b) :: pairs l
  | _ => []
def good (l : List Int) : Bool := decide (l.length = 64) && l.all fun c => decide (0 ≤ hexv c)
def zeros32 : List Int := List.replicate 32 0
/-- What digits are parsed as. -/
def parseB (l : List Int) : List Int := if good l then pairs l else zeros32

theorem hexL_length : ∀ l : List Int, (hexL l).length = 2 * l.length
  | [] => rfl
  | c :: l => by simp [hexL, hexL_length l]; omega
theorem hexL_snoc : ∀ (l : List Int) (c : Int), hexL (l ++ [c]) = hexL l ++ [rd dig (c / 16), rd dig (c % 16)]
  | [], c => rfl
  | x :: l, c => by simp [hexL, hexL_snoc l c]
theorem hexv_lt (c : Int) : hexv c < 16 := by unfold hexv; split <;> (try split) <;> omega
theorem hexv_ge (c : Int) : -1 ≤ hexv c := by unfold hexv; split <;> (try split) <;> omega
theorem dig_at (n : Nat) (h : n < 16) : (rd dig n = 48 + n ∨ rd dig n = 87 + n) ∧ hexv (rd dig n) = n := by
  have : ∀ n : Fin 16, (rd dig (n : Nat) = 48 + (n : Nat) ∨ rd dig (n : Nat) = 87 + (n : Nat)) ∧ hexv (rd dig (n : Nat)) = (n : Nat) := by decide +kernel
  exact this ⟨n, h⟩
theorem hexv_dig (x : Int) (h0 : 0 ≤ x) (h : x < 16) : hexv (rd dig x) = x := by
  have := (dig_at x.toNat (by omega)).2
  rwa [show ((x.toNat : Nat) : Int) = x by omega] at this
theorem dig_hexv (c : Int) (h : 0 ≤ hexv c) : rd dig (hexv c) = c := by
  unfold hexv at h ⊢
  have key : ∀ n : Fin 16, rd dig (n : Nat) = if (n : Nat) < 10 then 48 + ((n : Nat) : Int) else 87 + (n : Nat) := by decide +kernel
  split at h
  · rename_i hc
    rw [if_pos hc]
    have := key ⟨(c - 48).toNat, by omega⟩
    simp only at this
    rw [show (((c - 48).toNat : Nat) : Int) = c - 48 by omega] at this
    rw [this, if_pos (by omega)]; omega
  · rename_i hc
    rw [if_neg hc]
    split at h
    · rename_i hd
      rw [if_pos hd]
      have := key ⟨(c - 87).toNat, by omega⟩
      simp only at this
      rw [show (((c - 87).toNat : Nat) : Int) = c - 87 by omega] at this
      rw [this, if_neg (by omega)]; omega
    · omega
theorem good_hexL (l : List Int) (hl : l.length = 32) (hw : ∀ x ∈ l, 0 ≤ x ∧ x < 256) : good (hexL l) = true := by
  have : ∀ l : List Int, (∀ x ∈ l, 0 ≤ x ∧ x < 256) → (hexL l).all (fun c => decide (0 ≤ hexv c)) = true := by
    intro l
    induction l with
    | nil => intro _; rfl
    | cons c r ih =>
      intro hw
      have := hw c (by simp)
      simp only [hexL, List.all_cons, ih (fun x hx => hw x (List.mem_cons_of_mem _ hx)), Bool.and_true, Bool.and_eq_true, decide_eq_true_eq]
      rw [hexv_dig _ (by omega) (by omega), hexv_dig _ (by omega) (by omega)]
      omega
  simp [good, hexL_length, hl, this l hw] <;> exact List.all_eq_true.1 (this l hw) |>.imp (by simp)
theorem pairs_hexL : ∀ l : List Int, (∀ x ∈ l, 0 ≤ x ∧ x < 256) → pairs (hexL l) = l
  | [], _ => rfl
  | c :: l, hw => by
    have := hw c (by simp)
    simp only [hexL, pairs]
    rw [hexv_dig _ (by omega) (by omega), hexv_dig _ (by omega) (by omega), pairs_hexL l (fun x hx => hw x (List.mem_cons_of_mem _ hx))]
    congr 1; omega
theorem hexL_pairs : ∀ l : List Int, l.length % 2 = 0 → (∀ x ∈ l, 0 ≤ hexv x) → hexL (pairs l) = l
  | [], _, _ => rfl
  | [a], h, _ => by simp at h
  | a :: b :: l, h, hw => by
    have ha := hw a (by simp)
    have hb := hw b (by simp)
    have := hexv_lt a; have := hexv_lt b
    simp only [pairs, hexL]
    rw [show (16 * hexv a + hexv b) / 16 = hexv a by omega, show (16 * hexv a + hexv b) % 16 = hexv b by omega, dig_hexv a ha, dig_hexv b hb,
      hexL_pairs l (by simp at h; omega) (fun x hx => hw x (List.mem_cons_of_mem _ (List.mem_cons_of_mem _ hx)))]
theorem pairs_length : ∀ l : List Int, (pairs l).length = l.length / 2
  | [] => rfl
  | [a] => by simp [pairs]
  | a :: b :: l => by simp [pairs, pairs_length l]; omega
theorem pairs_at : ∀ (l : List Int) (j : Nat), 2 * j + 1 < l.length → rd (pairs l) j = 16 * hexv (rd l ((2 * j : Nat) : Int)) + hexv (rd l ((2 * j + 1 : Nat) : Int))
  | [], j, h => by simp at h
  | [a], j, h => by simp at h
  | a :: b :: l, 0, h => by simp [pairs, rd]
  | a :: b :: l, j + 1, h => by
    have := pairs_at l j (by simp at h; omega)
    simp only [rd, Int.toNat_natCast] at this ⊢
    simp only [pairs, List.getD_cons_succ, this]
    rw [show 2 * (j + 1) = 2 * j + 1 + 1 by omega]
    simp
end Go.Proofs.Ytcpcellocnojcaa

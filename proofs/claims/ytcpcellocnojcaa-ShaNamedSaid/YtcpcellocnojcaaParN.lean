import Derived.Test.YtcpcellocnojcaaRHex
namespace Go.Proofs.Ytcpcellocnojcaa
open Go Go.RowKit Go.Proofs.YtcpcellocnojcaaW.PrintWords
set_option linter.unusedVariables false
set_option linter.unusedSimpArgs false

/-- Item j of an ID, i digits read. -/
def preV (l : List Int) (i j : Nat) : Int :=
  if 2 * j + 1 < i then 16 * hexv (rd l ((2 * j : Nat) : Int)) + hexv (rd l ((2 * j + 1 : Nat) : Int)) else if 2 * j < i then hexv (rd l ((2 * j : Nat) : Int)) else 0
/-- An ID, i digits read. -/
def preL (l : List Int) (i : Nat) : List Int := (List.range 32).map (preV l i)
theorem preL_length (l : List Int) (i : Nat) : (preL l i).length = 32 := by simp [preL]
theorem preL_zero (l : List Int) : preL l 0 = zeros32 := by
  have : ∀ n, (List.range n).map (preV l 0) = List.replicate n 0 := by
    intro n
    rw [List.eq_replicate_iff]
    refine ⟨by simp, fun b hb => ?_⟩
    obtain ⟨j, _, rfl⟩ := List.mem_map.1 hb
    simp [preV]
  exact this 32
theorem preL_full (l : List Int) (h : l.length = 64) : preL l 64 = pairs l := by
  apply List.ext_getElem
  · rw [preL_length, pairs_length, h]
  · intro j h1 h2
    have hj : j < 32 := by rw [preL_length] at h1; exact h1
    have := pairs_at l j (by omega)
    have e : rd (pairs l) j = (pairs l)[j] := by simp [rd, h2]
    rw [e] at this
    rw [this]
    simp only [preL, List.getElem_map, List.getElem_range, preV]
    rw [if_pos (by omega)]
theorem preL_at (l : List Int) (i j : Nat) (h : j < 32) : (preL l i)[j]? = some (preV l i j) := by
  simp [preL, h]
theorem preV_range (l : List Int) (i j : Nat) (h : ∀ k : Nat, k < i → 0 ≤ hexv (rd l (k : Int))) : 0 ≤ preV l i j ∧ preV l i j < 256 := by
  unfold preV
  split
  · have a := h (2 * j) (by omega); have b := h (2 * j + 1) (by omega)
    have := hexv_lt (rd l ((2 * j : Nat) : Int)); have := hexv_lt (rd l ((2 * j + 1 : Nat) : Int))
    omega
  · split
    · have a := h (2 * j) (by omega)
      have := hexv_lt (rd l ((2 * j : Nat) : Int))
      omega
    · omega
theorem preV_half (l : List Int) (i : Nat) (h : ∀ k : Nat, k < i → 0 ≤ hexv (rd l (k : Int))) : 0 ≤ preV l i (i / 2) ∧ preV l i (i / 2) < 16 := by
  unfold preV
  rw [if_neg (by omega)]
  split
  · have a := h (2 * (i / 2)) (by omega)
    have := hexv_lt (rd l ((2 * (i / 2) : Nat) : Int))
    omega
  · omega
theorem preL_next (l : List Int) (i : Nat) (hi : i < 64) :
    preL l (i + 1) = (preL l i).set (i / 2) (16 * preV l i (i / 2) + hexv (rd l (i : Int))) := by
  apply List.ext_getElem
  · simp [preL_length]
  · intro j h1 h2
    have hj : j < 32 := by rw [preL_length] at h1; exact h1
    rw [List.getElem_set]
    split
    · rename_i he
      subst he
      simp only [preL, List.getElem_map, List.getElem_range, preV]
      by_cases hp : i % 2 = 0
      · have e : 2 * (i / 2) = i := by omega
        rw [e, if_neg (by omega), if_pos (by omega), if_neg (by omega), if_neg (by omega)]
        omega
      · have e : 2 * (i / 2) + 1 = i := by omega
        rw [e, if_pos (by omega), if_neg (by omega), if_pos (by omega)]
    · rename_i he
      simp only [preL, List.getElem_map, List.getElem_range, preV]
      by_cases h3 : 2 * j + 1 < i
      · rw [if_pos (by omega), if_pos h3]
      · rw [if_neg (by omega), if_neg h3]
        by_cases h4 : 2 * j < i
        · rw [if_pos (by omega), if_pos h4]
        · rw [if_neg (by omega), if_neg h4]
theorem or_digit (a n : Int) (ha : 0 ≤ a ∧ a < 16) (hn : 0 ≤ n ∧ n < 16) : Go.bits .or .u8 (a * 16) n = 16 * a + n := by
  have key : ∀ a n : Fin 16, Go.bits .or .u8 (((a : Nat) : Int) * 16) ((n : Nat) : Int) = 16 * ((a : Nat) : Int) + ((n : Nat) : Int) := by decide +kernel
  have := key ⟨a.toNat, by omega⟩ ⟨n.toNat, by omega⟩
  simp only at this
  rwa [show ((a.toNat : Nat) : Int) = a by omega, show ((n.toNat : Nat) : Int) = n by omega] at this
theorem indexByte_hex (c : Int) (h : 0 ≤ c ∧ c < 256) : Lib.indexByte (ByteArray.mk #[48, 49, 50, 51, 52, 53, 54, 55, 56, 57, 97, 98, 99, 100, 101, 102]).data.toList c.toNat.toUInt8 = hexv c := by
  have key : ∀ c : Fin 256, Lib.indexByte (ByteArray.mk #[48, 49, 50, 51, 52, 53, 54, 55, 56, 57, 97, 98, 99, 100, 101, 102]).data.toList (c : Nat).toUInt8 = hexv ((c : Nat) : Int) := by decide +kernel
  have := key ⟨c.toNat, by omega⟩
  simp only at this
  rwa [show ((c.toNat : Nat) : Int) = c by omega] at this
theorem byte_range (s : ByteArray) (i : Nat) : 0 ≤ rd (bytesOf s) i ∧ rd (bytesOf s) i < 256 := by
  simp only [rd, bytesOf, List.getD_eq_getElem?_getD, List.getElem?_map]
  cases s.data.toList[(i : Int).toNat]? with
  | none => simp
  | some b => have := b.toNat_lt; simp; omega
theorem good_iff (l : List Int) : good l = true ↔ l.length = 64 ∧ ∀ k : Nat, k < 64 → 0 ≤ hexv (rd l (k : Int)) := by
  simp only [good, Bool.and_eq_true, decide_eq_true_eq, List.all_eq_true]
  constructor
  · rintro ⟨h1, h2⟩
    refine ⟨h1, fun k hk => ?_⟩
    have hk' : k < l.length := by omega
    have := h2 l[k] (List.getElem_mem hk')
    simpa [rd, hk'] using this
  · rintro ⟨h1, h2⟩
    refine ⟨h1, fun c hc => ?_⟩
    obtain ⟨k, hk, rfl⟩ := List.getElem_of_mem hc
    have := h2 k (by omega)
    simpa [rd, hk] using this
/-- What Parse gives. -/
theorem parse_good {l : List Int} (h : good l = true) : parseB l = pairs l := if_pos h
theorem parse_bad {l : List Int} (h : good l = false) : parseB l = zeros32 := by simp [parseB, h]
end Go.Proofs.Ytcpcellocnojcaa

import Derived.Test.YtighpoelpedneaaRRead
import Derived.Test.YtighpoelpedneaaEqArr
namespace Go.Proofs.Ytighpoelpedneaa
open Go Go.RowKit Go.Proofs.YtighpoelpedneaaW.PrintWords
set_option linter.unusedVariables false
set_option linter.unusedSimpArgs false

theorem rnum_numL (most : Int) (rest : List Int) : ∀ (f : Nat) (v p u : Int), 0 ≤ v → fits f v → 0 ≤ u → 1 ≤ p → u + v * p ≤ most → u + v * p ≤ 4611686018427387904 → (p = 1 ∨ 0 < v) → rnum most (f + 1) p u (numL f v ++ rest) = (u + v * p, rest, false) := by
  intro f
  induction f with
  | zero =>
    intro v p u h0 hf hu hp hm h62 hz
    have hv : v ≤ 127 := fits_zero hf
    show rnum most 1 p u (v % 256 :: rest) = _
    have e1 : v % 256 = v := by omega
    have e2 : v % 128 = v := by omega
    rw [e1, rnum_good (by omega) (by rw [e2]; omega), e2]
  | succ f ih =>
    intro v p u h0 hf hu hp hm h62 hz
    by_cases hv : 127 < v
    · have hob := or128 v h0
      rw [numL_yes hv, List.cons_append, rnum_more (by rw [hob]; omega)]
      have hq : (v % 128 + 128) % 128 = v % 128 := by omega
      have hs : u + v % 128 * p + v / 128 * (p * 128) = u + v * p := by
        have h1 : v = 128 * (v / 128) + v % 128 := by omega
        have h2 : v * p = (128 * (v / 128) + v % 128) * p := by rw [← h1]
        rw [h2, Int.add_mul]
        have h3 : v / 128 * (p * 128) = 128 * (v / 128) * p := by
          rw [Int.mul_comm p 128, ← Int.mul_assoc, Int.mul_comm (v / 128) 128]
        omega
      have hn : 0 ≤ v % 128 * p := Int.mul_nonneg (by omega) (by omega)
      rw [hob, hq, ih (v / 128) (p * 128) (u + v % 128 * p) (by omega) (fits_next hf (by omega)) (by omega) (by omega) (by omega) (by omega) (.inr (by omega)), hs]
    · have e1 : v % 256 = v := by omega
      have e2 : v % 128 = v := by omega
      rw [numL_no hv, e1]
      show rnum most (f + 1 + 1) p u (v :: rest) = _
      rw [rnum_good (by omega) (by rw [e2]; omega), e2]
theorem numR_enc (most n : Int) (rest : List Int) (h : clamp n ≤ most) : numR most (encNum n ++ rest) false = (clamp n, rest, false) := by
  have hb := clamp_bd n
  have := rnum_numL most rest 8 (clamp n) 1 0 hb.1 (fits_start hb.2) (by omega) (by omega) (by omega) (by omega) (.inl rfl)
  unfold numR encNum
  simpa using this
theorem clamp_small (n : Int) (h : 0 ≤ n) (h' : n ≤ 4611686018427387904) : clamp n = n := by
  unfold clamp mnI mxI
  split <;> split <;> omega
theorem textR_enc (most : Int) (s : ByteArray) (rest : List Int) (h : (s.size : Int) ≤ most) (h5 : s.size ≤ 500) : textR most (encNum s.size ++ bytesOf s ++ rest) false = (bytesOf s, rest, false) := by
  have hc := clamp_small (s.size : Int) (by omega) (by omega)
  have hn : numR most (encNum s.size ++ bytesOf s ++ rest) false = ((s.size : Int), bytesOf s ++ rest, false) := by
    rw [List.append_assoc, numR_enc most _ _ (by rw [hc]; exact h), hc]
  have hl : (bytesOf s).length = s.size := bytesOf_length s
  unfold textR
  rw [hn]
  simp only [Bool.false_eq_true, false_or, List.length_append, Int.toNat_natCast]
  rw [if_neg (by rw [hl]; omega), ← hl, List.take_left, List.drop_left]
theorem idR_enc (b rest : List Int) (h : b.length = 32) : idR (b ++ rest) false = (b, rest, false) := by
  unfold idR
  rw [if_neg (by simp [h]), ← h, List.take_left, List.drop_left]
theorem idR_short (l : List Int) (h : l.length < 32) : idR l false = (zeros32, [], true) := by
  unfold idR
  rw [if_pos (.inr h)]
/-- All numbers' bytes, all texts' bytes. -/
def numsL : List Int → List Int
  | [] => []
  | n :: ns => encNum n ++ numsL ns
def textsL : List ByteArray → List Int
  | [] => []
  | s :: ss => encNum s.size ++ bytesOf s ++ textsL ss
theorem numsL_append : ∀ a b : List Int, numsL (a ++ b) = numsL a ++ numsL b
  | [], b => rfl
  | x :: a, b => by show encNum x ++ numsL (a ++ b) = _; rw [numsL_append a b, ← List.append_assoc]; rfl
theorem textsL_append : ∀ a b : List ByteArray, textsL (a ++ b) = textsL a ++ textsL b
  | [], b => rfl
  | x :: a, b => by show encNum x.size ++ bytesOf x ++ textsL (a ++ b) = _; rw [textsL_append a b, ← List.append_assoc]; rfl
theorem bytes_append {a b : List Int} (h : Bytes a) (h' : Bytes b) : Bytes (a ++ b) := fun x hx => by
  rcases List.mem_append.1 hx with hx | hx
  · exact h x hx
  · exact h' x hx
theorem bytes_numL : ∀ (f : Nat) (v : Int), 0 ≤ v → Bytes (numL f v)
  | 0, v, h => by intro x hx; simp [numL] at hx; omega
  | f + 1, v, h => by
    by_cases hv : 127 < v
    · rw [numL_yes hv]
      intro x hx
      rcases List.mem_cons.1 hx with rfl | hx
      · rw [or128 v h]; omega
      · exact bytes_numL f (v / 128) (by omega) x hx
    · rw [numL_no hv]; intro x hx; simp at hx; omega
theorem bytes_encNum (n : Int) : Bytes (encNum n) := bytes_numL 8 _ (clamp_bd n).1
theorem bytes_bytesOf (s : ByteArray) : Bytes (bytesOf s) := fun x hx => by
  unfold bytesOf at hx
  obtain ⟨b, _, rfl⟩ := List.mem_map.1 hx
  have := b.toNat_lt
  omega
theorem bytes_numsL : ∀ l : List Int, Bytes (numsL l)
  | [] => fun x hx => by cases hx
  | n :: ns => bytes_append (bytes_encNum n) (bytes_numsL ns)
theorem bytes_textsL : ∀ l : List ByteArray, Bytes (textsL l)
  | [] => fun x hx => by cases hx
  | n :: ns => bytes_append (bytes_append (bytes_encNum _) (bytes_bytesOf n)) (bytes_textsL ns)
theorem encNum_len (n : Int) : (encNum n).length ≤ 9 := (numL_len 8 _).2
theorem numsL_len : ∀ l : List Int, (numsL l).length ≤ 9 * l.length
  | [] => Nat.le_refl _
  | n :: ns => by
    show (encNum n ++ numsL ns).length ≤ _
    rw [List.length_append, List.length_cons]
    have := encNum_len n
    have := numsL_len ns
    omega
theorem textsL_len : ∀ l : List ByteArray, (∀ s ∈ l, s.size ≤ 500) → (textsL l).length ≤ 509 * l.length
  | [], _ => Nat.le_refl _
  | n :: ns, h => by
    show (encNum n.size ++ bytesOf n ++ textsL ns).length ≤ _
    rw [List.length_append, List.length_append, List.length_cons, bytesOf_length]
    have := encNum_len n.size
    have := textsL_len ns (fun s hs => h s (List.mem_cons_of_mem _ hs))
    have := h n (by simp)
    omega
end Go.Proofs.Ytighpoelpedneaa

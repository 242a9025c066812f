import Derived.Test.YtcpcellocnojcaaShaCmpW
namespace Go.Proofs.Ytcpcellocnojcaa
open Go Go.RowKit Go.Proofs.YtcpcellocnojcaaW.PrintWords
set_option linter.unusedVariables false
set_option linter.unusedSimpArgs false

theorem mask64 (x m : Int) (h0 : 0 ≤ m) (h1 : m < 9223372036854775808) : 0 ≤ Go.bits .and .i64 x m ∧ Go.bits .and .i64 x m ≤ m := by
  obtain ⟨n, rfl⟩ := Int.eq_ofNat_of_zero_le h0
  show 0 ≤ IntKind.i64.wrap ((BitVec.ofInt 64 x &&& BitVec.ofInt 64 (n : Int)).toNat : Int) ∧ IntKind.i64.wrap ((BitVec.ofInt 64 x &&& BitVec.ofInt 64 (n : Int)).toNat : Int) ≤ n
  have hn : (BitVec.ofInt 64 (n : Int)).toNat = n := by
    rw [BitVec.ofInt_natCast, BitVec.toNat_ofNat]; exact Nat.mod_eq_of_lt (by omega)
  have hle : (BitVec.ofInt 64 x &&& BitVec.ofInt 64 (n : Int)).toNat ≤ n := by
    rw [BitVec.toNat_and, hn]; exact Nat.and_le_right
  rw [IntKind.wrap_i64]
  omega
theorem strOf_bytes (s : ByteArray) : strOfNums (bytesOf s) = s := by
  apply ByteArray.ext
  simp only [strOfNums, bytesOf, List.map_map]
  rw [show ((fun n : Int => UInt8.ofNat n.toNat) ∘ fun b : UInt8 => (b.toNat : Int)) = id from by funext b; simp]
  simp
theorem bytes_strOf (l : List Int) (hw : ∀ x ∈ l, 0 ≤ x ∧ x < 256) : bytesOf (strOfNums l) = l := by
  simp only [strOfNums, bytesOf, List.map_map]
  conv => rhs; rw [← List.map_id l]
  apply List.map_congr_left
  intro x hx
  have := hw x hx
  simp
  omega
theorem bytes_append (s t : ByteArray) : bytesOf (s ++ t) = bytesOf s ++ bytesOf t := by
  simp [bytesOf, ByteArray.data_append]
theorem bytes_extract (s : ByteArray) (a b : Nat) : bytesOf (s.extract a b) = ((bytesOf s).drop a).take (b - a) := by
  simp [bytesOf, ByteArray.data_extract, List.map_take, List.map_drop, List.extract_eq_take_drop]
theorem turn_law (b : List Int) (c : Int) (i : Nat) (hb : b.length = 32) (hw : ∀ x ∈ b, 0 ≤ x ∧ x < 256) (hi : i < 64) (hg : good ((hexL b).take i ++ [c] ++ (hexL b).drop (i + 1)) = true) :
    hexL (pairs ((hexL b).take i ++ [c] ++ (hexL b).drop (i + 1))) = (hexL b).take i ++ [c] ++ (hexL b).drop (i + 1) ∧
    (pairs ((hexL b).take i ++ [c] ++ (hexL b).drop (i + 1)) = b ↔ c = rd (hexL b) i) := by
  have hl : (hexL b).length = 64 := by rw [hexL_length, hb]
  obtain ⟨gl, gd⟩ := (good_iff _).1 hg
  have hall : ∀ x ∈ (hexL b).take i ++ [c] ++ (hexL b).drop (i + 1), 0 ≤ hexv x := fun x hx => by
    have := hg
    simp only [good, Bool.and_eq_true, decide_eq_true_eq, List.all_eq_true] at this
    exact this.2 x hx
  have h1 := hexL_pairs _ (by rw [gl]) hall
  refine ⟨h1, ?_⟩
  have hd : (hexL b).take i ++ [rd (hexL b) i] ++ (hexL b).drop (i + 1) = hexL b := by
    have hi' : i < (hexL b).length := by omega
    rw [show rd (hexL b) i = (hexL b)[i] from by simp [rd, hi'], List.append_assoc, List.singleton_append, ← List.drop_eq_getElem_cons hi', List.take_append_drop]
  constructor
  · intro h
    rw [h] at h1
    have h2 : (hexL b).take i ++ [c] ++ (hexL b).drop (i + 1) = (hexL b).take i ++ [rd (hexL b) i] ++ (hexL b).drop (i + 1) := by rw [hd, ← h1]
    have h3 := List.append_cancel_right h2
    have h4 := List.append_cancel_left h3
    simpa using h4
  · intro h
    rw [h, hd, pairs_hexL b hw]
theorem turn_len (b : List Int) (c : Int) (i : Nat) (hb : b.length = 32) (hi : i < 64) : ((hexL b).take i ++ [c] ++ (hexL b).drop (i + 1)).length = 64 := by
  have hl : (hexL b).length = 64 := by rw [hexL_length, hb]
  simp [hl]; omega
theorem parse_len (l : List Int) : (parseB l).length = 32 := by
  unfold parseB
  split
  · rename_i hg; rw [pairs_length, ((good_iff _).1 hg).1]
  · rfl
theorem parse_range (l : List Int) : ∀ x ∈ parseB l, 0 ≤ x ∧ x < 256 := by
  unfold parseB
  split
  · rename_i hg
    obtain ⟨gl, gd⟩ := (good_iff _).1 hg
    intro x hx
    rw [← preL_full l gl] at hx
    obtain ⟨j, hj, rfl⟩ := List.mem_map.1 hx
    exact preV_range l 64 j gd
  · intro x hx
    have := List.eq_of_mem_replicate hx
    omega
theorem parse_hexL (b : List Int) (hb : b.length = 32) (hw : ∀ x ∈ b, 0 ≤ x ∧ x < 256) : good (hexL b) = true ∧ parseB (hexL b) = b := by
  have := good_hexL b hb hw
  exact ⟨this, by rw [parse_good this, pairs_hexL b hw]⟩
theorem good_short (l : List Int) (h : l.length ≠ 64) : good l = false := by
  cases hb : good l with
  | false => rfl
  | true => exact absurd ((good_iff _).1 hb).1 h
end Go.Proofs.Ytcpcellocnojcaa

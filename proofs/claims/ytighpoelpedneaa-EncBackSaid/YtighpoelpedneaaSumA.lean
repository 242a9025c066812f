import Derived.Test.YtighpoelpedneaaBase
namespace Go.Proofs.Ytighpoelpedneaa
open Go.RowKit Go.Proofs.YtighpoelpedneaaW.PrintWords
set_option linter.unusedVariables false
set_option linter.unusedSimpArgs false

theorem at_nat {w : World} {A : Option Addr} {n : Nat} {k : IntKind} {xs : List Int} (h : (Kd.int k).C w A n xs) (i : Nat) (h1 : i < n) : ∃ ad, A = some ad ∧ w.cell? (ad.add i) = some (.int k (rd xs i)) := by
  obtain ⟨ad, e, hx⟩ := Kd.at_int h i (by omega) (by omega)
  exact ⟨ad, e, by simpa using hx⟩
theorem C_len {α : Type} {d : Kd α} {w : World} {A : Option Addr} {n : Nat} {xs : List α} (h : d.C w A n xs) : n ≤ 9223372036854775807 := h.2.1
theorem ret_int {k : IntKind} {a b : Int} (h : a = b) : Ending.returned (.int k a) = .returned (.int k b) := by rw [h]

/-- one bit of enc.Sum -/
def encBit (p : Int) : Int := Go.bits .xor .u32 (p / 2) (Go.bits .and .u32 3988292384 (-Go.bits .and .u32 p 1 % 4294967296))
def encBits (p : Int) : Nat → Int
  | 0 => p
  | j + 1 => encBit (encBits p j)
def encByte (s c : Int) : Int := encBits (Go.bits .xor .u32 s (c % 4294967296)) 8
def encRun (l : List Int) : Int := l.foldl encByte 4294967295
def encSum (l : List Int) : Int := Go.bits .xor .u32 4294967295 (encRun l)
theorem encRun_snoc (l : List Int) (k : Nat) (h : k < l.length) : encRun (l.take (k + 1)) = encByte (encRun (l.take k)) (rd l k) := by
  unfold encRun
  rw [List.take_succ_eq_append_getElem h, List.foldl_append]
  simp [rd, h]

theorem encSum_any (A0 : Option Addr) (c0 : Nat) (l0 : List Int) (w : World) (hr0 : Kd.C (Kd.int .u8) w A0 l0.length l0) :
    Calls Try.prog 11 #[.slice A0 l0.length c0] w fun e w' => e = .returned (.int .u32 (encSum l0)) ∧ w = w' := by
  have HR0 := Aside0.mk hr0
  have hl0 := C_len hr0
  clear hr0
  go_enter Try.func11, Try.ntmps11
  go_wp2
  go_loop [3, 8] (fun s i => ∃ k : Nat, k ≤ l0.length ∧ i = .int .i64 k ∧ s = .int .u32 (encRun (l0.take k))) (fun _ i => l0.length - (intOf i).toNat)
  case atStart => exact ⟨0, by omega, rfl, rfl⟩
  case round =>
    obtain ⟨k, hkl, rfl, rfl⟩ := hrel
    by_cases hk : k < l0.length
    · obtain ⟨ad, rfl, hx⟩ := at_nat HR0.out k (by omega)
      have HS := Aside0.mk (encRun_snoc l0 k hk)
      go_wp2
      go_loop [3, 16] (fun s j => ∃ m : Nat, m ≤ 8 ∧ j = .int .i64 m ∧ s = .int .u32 (encBits (Go.bits .xor .u32 (encRun (l0.take k)) (rd l0 k % 4294967296)) m)) (fun _ i => 8 - (intOf i).toNat)
      case atStart => exact ⟨0, by omega, rfl, rfl⟩
      case round =>
        obtain ⟨j, hj8, rfl, rfl⟩ := hrel
        by_cases hj : j < 8
        · go_wp2
          go_round
          case rel => exact ⟨j + 1, by omega, by go_num, rfl⟩
          case measure => simp [intOf]; omega
        · obtain rfl : j = 8 := by omega
          go_wp2
          go_round
          case rel => exact ⟨k + 1, by omega, by go_num, by rw [HS.out]; rfl⟩
          case measure => simp [intOf]; omega
    · obtain rfl : k = l0.length := by omega
      go_wp2
      go_ret
      exact ⟨ret_int rfl, rfl⟩

end Go.Proofs.Ytighpoelpedneaa

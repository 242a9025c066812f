import Derived.Test.YtcpcellocnojcaaOwn
namespace Go.Proofs.Ytcpcellocnojcaa
open Go Go.RowKit Go.Proofs.YtcpcellocnojcaaW.PrintWords
set_option linter.unusedVariables false
set_option linter.unusedSimpArgs false

/-- A word turned to the right. -/
def rotR (x : Int) (n : Nat) : Int := Go.bits .or .u32 (x / 2 ^ n) (x * 2 ^ (32 - n) % 4294967296)
theorem or_comm32 (a b : Int) : Go.bits .or .u32 a b = Go.bits .or .u32 b a := by
  show IntKind.u32.wrap ((BitVec.ofInt 32 a ||| BitVec.ofInt 32 b).toNat : Int) = IntKind.u32.wrap ((BitVec.ofInt 32 b ||| BitVec.ofInt 32 a).toNat : Int)
  rw [BitVec.or_comm]
theorem neg_and (n : Nat) (h : 1 ≤ n ∧ n ≤ 31) : Go.bits .and .u64 (IntKind.u64.wrap (-(n : Int))) 31 = ((32 - n : Nat) : Int) := by
  have h2 : ∀ n : Fin 32, 1 ≤ n.1 → Go.bits .and .u64 (IntKind.u64.wrap (-((n.1 : Nat) : Int))) 31 = ((32 - n.1 : Nat) : Int) := by decide +kernel
  exact h2 ⟨n, by omega⟩ h.1
theorem rot_any (x : Int) (n : Nat) (w : World) (h : 1 ≤ n ∧ n ≤ 31) :
    Calls Try.prog 49 #[.int .u32 x, .int .i64 (-(n : Int))] w fun e w' => e = .returned (.int .u32 (rotR x n)) ∧ w = w' := by
  obtain ⟨m, hm⟩ : ∃ m, m = 32 - n := ⟨_, rfl⟩
  have hna : Go.bits .and .u64 (IntKind.u64.wrap (-(n : Int))) 31 = (m : Int) := by rw [hm]; exact neg_and n h
  have hm2 : 32 - m = n := by omega
  have hm3 : m < 32 := by omega
  have HM := Aside0.mk hm
  clear hm
  go_enter Try.func49, Try.ntmps49
  go_wp2
  go_ret
  refine ⟨?_, rfl⟩
  rw [or_comm32, HM.out]
  rfl
theorem right_any (x : Int) (n : Nat) (w : World) (h : 1 ≤ n ∧ n ≤ 31) :
    Calls Try.prog 39 #[.int .u32 x, .int .u64 (n : Int)] w fun e w' => e = .returned (.int .u32 (rotR x n)) ∧ w = w' := by
  go_enter Try.func39, Try.ntmps39
  go_wp2
  go_ret
  refine ⟨rfl, rfl⟩
/-- Three turns, laid over each other. -/
def turnR (x : Int) (a b c : Nat) : Int := Go.bits .xor .u32 (Go.bits .xor .u32 (rotR x a) (rotR x b)) (rotR x c)
theorem turn_any (x : Int) (a b c : Nat) (w : World) (ha : 1 ≤ a ∧ a ≤ 31) (hb : 1 ≤ b ∧ b ≤ 31) (hc : 1 ≤ c ∧ c ≤ 31) :
    Calls Try.prog 50 #[.int .u32 x, .int .i64 (a : Int), .int .i64 (b : Int), .int .i64 (c : Int)] w fun e w' => e = .returned (.int .u32 (turnR x a b c)) ∧ w = w' := by
  have h1 : wrap64 (-(a : Int)) = -(a : Int) := by unfold wrap64; omega
  have h2 : wrap64 (-(b : Int)) = -(b : Int) := by unfold wrap64; omega
  have h3 : wrap64 (-(c : Int)) = -(c : Int) := by unfold wrap64; omega
  have HA := Aside0.mk ha
  have HB := Aside0.mk hb
  have HC := Aside0.mk hc
  clear ha hb hc
  go_enter Try.func50, Try.ntmps50
  go_wp2_with (first
    | (go_at_call 49; (with_reducible refine (rot_any x a w HA.out).mono ?_); rintro e w1 ⟨rfl, rfl⟩)
    | (go_at_call 49; (with_reducible refine (rot_any x b w HB.out).mono ?_); rintro e w1 ⟨rfl, rfl⟩)
    | (go_at_call 49; (with_reducible refine (rot_any x c w HC.out).mono ?_); rintro e w1 ⟨rfl, rfl⟩))
  go_ret
  refine ⟨rfl, rfl⟩
theorem rot_lit (x m : Int) (n : Nat) (w : World) (h : 1 ≤ n ∧ n ≤ 31) (hm : m = -(n : Int)) :
    Calls Try.prog 49 #[.int .u32 x, .int .i64 m] w fun e w' => e = .returned (.int .u32 (rotR x n)) ∧ w = w' := by
  subst hm; exact rot_any x n w h
theorem turn_lit (x p q r : Int) (a b c : Nat) (w : World) (ha : 1 ≤ a ∧ a ≤ 31) (hb : 1 ≤ b ∧ b ≤ 31) (hc : 1 ≤ c ∧ c ≤ 31) (h1 : p = (a : Int)) (h2 : q = (b : Int)) (h3 : r = (c : Int)) :
    Calls Try.prog 50 #[.int .u32 x, .int .i64 p, .int .i64 q, .int .i64 r] w fun e w' => e = .returned (.int .u32 (turnR x a b c)) ∧ w = w' := by
  subst h1 h2 h3; exact turn_any x a b c w ha hb hc
theorem rot7 (x : Int) (w : World) : Calls Try.prog 49 #[.int .u32 x, .int .i64 (-7)] w fun e w' => e = .returned (.int .u32 (rotR x 7)) ∧ w = w' := rot_lit x (-7) 7 w (by decide) rfl
theorem rot18 (x : Int) (w : World) : Calls Try.prog 49 #[.int .u32 x, .int .i64 (-18)] w fun e w' => e = .returned (.int .u32 (rotR x 18)) ∧ w = w' := rot_lit x (-18) 18 w (by decide) rfl
theorem rot17 (x : Int) (w : World) : Calls Try.prog 49 #[.int .u32 x, .int .i64 (-17)] w fun e w' => e = .returned (.int .u32 (rotR x 17)) ∧ w = w' := rot_lit x (-17) 17 w (by decide) rfl
theorem rot19 (x : Int) (w : World) : Calls Try.prog 49 #[.int .u32 x, .int .i64 (-19)] w fun e w' => e = .returned (.int .u32 (rotR x 19)) ∧ w = w' := rot_lit x (-19) 19 w (by decide) rfl
theorem turnE (x : Int) (w : World) : Calls Try.prog 50 #[.int .u32 x, .int .i64 6, .int .i64 11, .int .i64 25] w fun e w' => e = .returned (.int .u32 (turnR x 6 11 25)) ∧ w = w' := turn_lit x 6 11 25 6 11 25 w (by decide) (by decide) (by decide) rfl rfl rfl
theorem turnA (x : Int) (w : World) : Calls Try.prog 50 #[.int .u32 x, .int .i64 2, .int .i64 13, .int .i64 22] w fun e w' => e = .returned (.int .u32 (turnR x 2 13 22)) ∧ w = w' := turn_lit x 2 13 22 2 13 22 w (by decide) (by decide) (by decide) rfl rfl rfl
theorem turnEq (x : Int) (w : World) : Calls Try.prog 50 #[.int .u32 x, .int .i64 6, .int .i64 11, .int .i64 25] w fun e w' => e = .returned (.int .u32 (turnR x 6 11 25)) ∧ w' = w := (turnE x w).mono fun _ _ ⟨h1, h2⟩ => ⟨h1, h2.symm⟩
theorem turnAq (x : Int) (w : World) : Calls Try.prog 50 #[.int .u32 x, .int .i64 2, .int .i64 13, .int .i64 22] w fun e w' => e = .returned (.int .u32 (turnR x 2 13 22)) ∧ w' = w := (turnA x w).mono fun _ _ ⟨h1, h2⟩ => ⟨h1, h2.symm⟩
theorem rightq (x m : Int) (n : Nat) (w : World) (h : 1 ≤ n ∧ n ≤ 31) (hm : m = (n : Int)) : Calls Try.prog 39 #[.int .u32 x, .int .u64 m] w fun e w' => e = .returned (.int .u32 (rotR x n)) ∧ w' = w := by
  subst hm
  exact (right_any x n w h).mono fun _ _ ⟨h1, h2⟩ => ⟨h1, h2.symm⟩
theorem right7q (x : Int) (w : World) : Calls Try.prog 39 #[.int .u32 x, .int .u64 7] w fun e w' => e = .returned (.int .u32 (rotR x 7)) ∧ w' = w := rightq x 7 7 w (by decide) rfl
theorem right18q (x : Int) (w : World) : Calls Try.prog 39 #[.int .u32 x, .int .u64 18] w fun e w' => e = .returned (.int .u32 (rotR x 18)) ∧ w' = w := rightq x 18 18 w (by decide) rfl
theorem right17q (x : Int) (w : World) : Calls Try.prog 39 #[.int .u32 x, .int .u64 17] w fun e w' => e = .returned (.int .u32 (rotR x 17)) ∧ w' = w := rightq x 17 17 w (by decide) rfl
theorem right19q (x : Int) (w : World) : Calls Try.prog 39 #[.int .u32 x, .int .u64 19] w fun e w' => e = .returned (.int .u32 (rotR x 19)) ∧ w' = w := rightq x 19 19 w (by decide) rfl
theorem right6q (x : Int) (w : World) : Calls Try.prog 39 #[.int .u32 x, .int .u64 6] w fun e w' => e = .returned (.int .u32 (rotR x 6)) ∧ w' = w := rightq x 6 6 w (by decide) rfl
theorem right11q (x : Int) (w : World) : Calls Try.prog 39 #[.int .u32 x, .int .u64 11] w fun e w' => e = .returned (.int .u32 (rotR x 11)) ∧ w' = w := rightq x 11 11 w (by decide) rfl
theorem right25q (x : Int) (w : World) : Calls Try.prog 39 #[.int .u32 x, .int .u64 25] w fun e w' => e = .returned (.int .u32 (rotR x 25)) ∧ w' = w := rightq x 25 25 w (by decide) rfl
theorem right2q (x : Int) (w : World) : Calls Try.prog 39 #[.int .u32 x, .int .u64 2] w fun e w' => e = .returned (.int .u32 (rotR x 2)) ∧ w' = w := rightq x 2 2 w (by decide) rfl
theorem right13q (x : Int) (w : World) : Calls Try.prog 39 #[.int .u32 x, .int .u64 13] w fun e w' => e = .returned (.int .u32 (rotR x 13)) ∧ w' = w := rightq x 13 13 w (by decide) rfl
theorem right22q (x : Int) (w : World) : Calls Try.prog 39 #[.int .u32 x, .int .u64 22] w fun e w' => e = .returned (.int .u32 (rotR x 22)) ∧ w' = w := rightq x 22 22 w (by decide) rfl
end Go.Proofs.Ytcpcellocnojcaa

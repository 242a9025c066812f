import Derived.Test.YtighpoelpedneaaSumA
import Derived.Laws.BitsAllLaws
namespace Go.Proofs.Ytighpoelpedneaa
open Go.RowKit Go.Proofs.YtighpoelpedneaaW.PrintWords
set_option linter.unusedVariables false
set_option linter.unusedSimpArgs false

/-! the plain law of the sum, over Nat -/
/-- one bit of the sum, over all numbers -/
def bN (x : Nat) : Nat := (x / 2) ^^^ (if x % 2 = 1 then 3988292384 else 0)
def bNs (x : Nat) : Nat → Nat
  | 0 => x
  | j + 1 => bN (bNs x j)
theorem xor_mod2 (x y : Nat) : (x ^^^ y) % 2 = (x + y) % 2 := by
  have h := Nat.xor_mod_two_pow (a := x) (b := y) (n := 1)
  rw [Nat.pow_one] at h
  rw [h]
  rcases Nat.mod_two_eq_zero_or_one x with hx | hx <;> rcases Nat.mod_two_eq_zero_or_one y with hy | hy <;> rw [hx, hy] <;> first | (simp; omega) | omega
theorem xor_eq_zero {x y : Nat} (h : x ^^^ y = 0) : x = y := by
  have : (x ^^^ y) ^^^ y = y := by rw [h, Nat.zero_xor]
  rw [Nat.xor_assoc, Nat.xor_self, Nat.xor_zero] at this
  exact this
theorem bN_lt {x : Nat} (h : x < 4294967296) : bN x < 4294967296 := by
  unfold bN
  exact Nat.xor_lt_two_pow (n := 32) (by omega) (by split <;> decide)
theorem bN_xor (x y : Nat) : bN (x ^^^ y) = bN x ^^^ bN y := by
  have h2 : (x ^^^ y) / 2 = (x / 2) ^^^ (y / 2) := Nat.xor_div_two
  have h1 := xor_mod2 x y
  unfold bN
  rw [h2, h1]
  have e1 : ∀ a b c : Nat, (a ^^^ c) ^^^ (b ^^^ c) = a ^^^ b := fun a b c => by
    rw [Nat.xor_assoc, ← Nat.xor_assoc c b c, Nat.xor_comm c b, Nat.xor_assoc b c c, Nat.xor_self, Nat.xor_zero]
  rcases Nat.mod_two_eq_zero_or_one x with hx | hx <;> rcases Nat.mod_two_eq_zero_or_one y with hy | hy
  · rw [if_neg (by omega), if_neg (by omega), if_neg (by omega)]; simp
  · rw [if_pos (by omega), if_neg (by omega), if_pos (by omega)]; simp [Nat.xor_assoc]
  · rw [if_pos (by omega), if_pos (by omega), if_neg (by omega)]; simp only [Nat.xor_zero]
    rw [Nat.xor_assoc, Nat.xor_assoc, Nat.xor_comm (y / 2)]
  · rw [if_neg (by omega), if_pos (by omega), if_pos (by omega), Nat.xor_zero]; exact (e1 _ _ _).symm
theorem bN_even (x : Nat) : bN (2 * x) = x := by
  unfold bN
  rw [if_neg (by omega), Nat.xor_zero]; omega
theorem bN_inj {x : Nat} (h : x < 4294967296) (h0 : bN x = 0) : x = 0 := by
  unfold bN at h0
  split at h0
  · have := xor_eq_zero h0
    omega
  · rw [Nat.xor_zero] at h0; omega
theorem bNs_xor (x y j : Nat) : bNs (x ^^^ y) j = bNs x j ^^^ bNs y j := by
  induction j with
  | zero => rfl
  | succ j ih => unfold bNs; rw [ih, bN_xor]
theorem bNs_lt {x : Nat} (h : x < 4294967296) (j : Nat) : bNs x j < 4294967296 := by
  induction j with
  | zero => exact h
  | succ j ih => exact bN_lt ih
theorem bNs_add (x i j : Nat) : bNs x (i + j) = bNs (bNs x i) j := by
  induction j with
  | zero => rfl
  | succ j ih => show bN (bNs x (i + j)) = bN (bNs (bNs x i) j); rw [ih]
theorem bNs_pow (x j : Nat) : bNs (2 ^ j * x) j = x := by
  induction j generalizing x with
  | zero => simp [bNs]
  | succ j ih =>
    unfold bNs
    have e : 2 ^ (j + 1) * x = 2 ^ j * (2 * x) := by rw [Nat.pow_succ, Nat.mul_assoc]
    rw [e, ih, bN_even]
theorem bNs_inj {x : Nat} (h : x < 4294967296) (j : Nat) (h0 : bNs x j = 0) : x = 0 := by
  induction j with
  | zero => exact h0
  | succ j ih => exact ih (bN_inj (bNs_lt h j) h0)

theorem encBit_nat (p : Nat) (h : p < 4294967296) : encBit (p : Int) = ((bN p : Nat) : Int) := by
  have ha : Go.bits .and .u32 (p : Int) 1 = ((p % 2 : Nat) : Int) := by
    have := u32_and_nat p 1 h (by decide)
    rw [Nat.and_one_is_mod] at this
    exact this
  unfold encBit bN
  rw [ha]
  have hd : (p : Int) / 2 = ((p / 2 : Nat) : Int) := by omega
  rw [hd]
  rcases Nat.mod_two_eq_zero_or_one p with e | e
  · rw [e]
    have : Go.bits .and .u32 3988292384 (-((0 : Nat) : Int) % 4294967296) = ((0 : Nat) : Int) := by decide +kernel
    rw [this, u32_xor_nat _ _ (by omega) (by decide)]
    rfl
  · rw [e]
    have : Go.bits .and .u32 3988292384 (-((1 : Nat) : Int) % 4294967296) = ((3988292384 : Nat) : Int) := by decide +kernel
    rw [this, u32_xor_nat _ _ (by omega) (by decide)]
    rfl
theorem encBits_nat (p : Nat) (h : p < 4294967296) (j : Nat) : encBits (p : Int) j = ((bNs p j : Nat) : Int) := by
  induction j with
  | zero => rfl
  | succ j ih => unfold encBits bNs; rw [ih, encBit_nat _ (bNs_lt h j)]

/-! the reference's bit -/
def refBit (s c : Int) (k : Nat) : Int :=
  if ((!(Go.bits .and .u32 s 1 == 1) == (Go.bits .and .u8 (c / 2 ^ k) 1 == 1)) = true) then Go.bits .xor .u32 (s / 2) 3988292384 else s / 2
def refBits (s c : Int) : Nat → Int
  | 0 => s
  | k + 1 => refBit (refBits s c k) c k
theorem refBits_yes {s c : Int} {k : Nat} (h : ((!(Go.bits .and .u32 (refBits s c k) 1 == 1) == (Go.bits .and .u8 (c / 2 ^ k) 1 == 1)) = true)) : refBits s c (k + 1) = Go.bits .xor .u32 (refBits s c k / 2) 3988292384 := by
  show refBit _ _ _ = _; unfold refBit; rw [if_pos h]
theorem refBits_no {s c : Int} {k : Nat} (h : ((!(Go.bits .and .u32 (refBits s c k) 1 == 1) == (Go.bits .and .u8 (c / 2 ^ k) 1 == 1)) = false)) : refBits s c (k + 1) = refBits s c k / 2 := by
  show refBit _ _ _ = _; unfold refBit; rw [if_neg (by rw [h]; decide)]
def refRun (l : List Int) : Int := l.foldl (fun s c => refBits s c 8) 4294967295
def refSum (l : List Int) : Int := Go.bits .xor .u32 (refRun l) 4294967295
theorem refRun_snoc (l : List Int) (k : Nat) (h : k < l.length) : refRun (l.take (k + 1)) = refBits (refRun (l.take k)) (rd l k) 8 := by
  unfold refRun
  rw [List.take_succ_eq_append_getElem h, List.foldl_append]
  simp [rd, h]
theorem refBit_nat (s c k : Nat) (h : s < 4294967296) (hc : c < 256) : ∃ q : Nat, q < 4294967296 ∧ refBit (s : Int) (c : Int) k = (q : Int) ∧ q = bN (s ^^^ c / 2 ^ k) ^^^ (c / 2 ^ (k + 1)) := by
  have ha : Go.bits .and .u32 (s : Int) 1 = ((s % 2 : Nat) : Int) := by
    have := u32_and_nat s 1 h (by decide)
    rw [Nat.and_one_is_mod] at this
    exact this
  have hk : c / 2 ^ k < 256 := Nat.lt_of_le_of_lt (Nat.div_le_self _ _) hc
  have hb : Go.bits .and .u8 ((c : Int) / 2 ^ k) 1 = ((c / 2 ^ k % 2 : Nat) : Int) := by
    have := u8_and_nat (c / 2 ^ k) 1 hk (by decide)
    rw [Nat.and_one_is_mod] at this
    have e : ((c / 2 ^ k : Nat) : Int) = (c : Int) / 2 ^ k := by simp
    rw [← e]; exact this
  have e2 : c / 2 ^ (k + 1) = c / 2 ^ k / 2 := by rw [Nat.pow_succ, Nat.div_div_eq_div_mul]
  rw [e2]
  generalize c / 2 ^ k = d at *
  have hd : (s : Int) / 2 = ((s / 2 : Nat) : Int) := by omega
  have hx2 : (s ^^^ d) / 2 = (s / 2) ^^^ (d / 2) := Nat.xor_div_two
  have hx1 := xor_mod2 s d
  have hq : ∀ a b c : Nat, ((a ^^^ b) ^^^ c) ^^^ b = a ^^^ c := fun a b c => by
    rw [Nat.xor_assoc a b c, Nat.xor_comm b c, ← Nat.xor_assoc a c b, Nat.xor_assoc, Nat.xor_self, Nat.xor_zero]
  unfold refBit
  rw [ha, hb, hd]
  rcases Nat.mod_two_eq_zero_or_one s with hs | hs <;> rcases Nat.mod_two_eq_zero_or_one d with hd2 | hd2
  · refine ⟨s / 2, by omega, by rw [hs, hd2]; rfl, ?_⟩
    unfold bN; rw [hx2, if_neg (by omega), hq, Nat.xor_zero]
  · refine ⟨s / 2 ^^^ 3988292384, Nat.xor_lt_two_pow (n := 32) (by omega) (by decide), by rw [hs, hd2]; exact u32_xor_nat _ _ (by omega) (by decide), ?_⟩
    unfold bN; rw [hx2, if_pos (by omega), hq]
  · refine ⟨s / 2 ^^^ 3988292384, Nat.xor_lt_two_pow (n := 32) (by omega) (by decide), by rw [hs, hd2]; exact u32_xor_nat _ _ (by omega) (by decide), ?_⟩
    unfold bN; rw [hx2, if_pos (by omega), hq]
  · refine ⟨s / 2, by omega, by rw [hs, hd2]; rfl, ?_⟩
    unfold bN; rw [hx2, if_neg (by omega), hq, Nat.xor_zero]
theorem refBits_nat (s c : Nat) (h : s < 4294967296) (hc : c < 256) (k : Nat) : ∃ q : Nat, q < 4294967296 ∧ refBits (s : Int) (c : Int) k = (q : Int) ∧ q ^^^ (c / 2 ^ k) = bNs (s ^^^ c) k := by
  induction k with
  | zero => exact ⟨s, h, rfl, by simp [bNs]⟩
  | succ k ih =>
    obtain ⟨q, hq, e, hx⟩ := ih
    obtain ⟨q', hq', e', hx'⟩ := refBit_nat q c k hq hc
    refine ⟨q', hq', by unfold refBits; rw [e, e'], ?_⟩
    rw [hx', hx, Nat.xor_assoc, Nat.xor_self, Nat.xor_zero]; rfl
theorem refByte_eq (s c : Nat) (h : s < 4294967296) (hc : c < 256) : refBits (s : Int) (c : Int) 8 = encByte (s : Int) (c : Int) ∧ ∃ q : Nat, q < 4294967296 ∧ encByte (s : Int) (c : Int) = (q : Int) ∧ q = bNs (s ^^^ c) 8 := by
  obtain ⟨q, hq, e, hx⟩ := refBits_nat s c h hc 8
  rw [Nat.div_eq_of_lt (by omega), Nat.xor_zero] at hx
  have he : encByte (s : Int) (c : Int) = ((bNs (s ^^^ c) 8 : Nat) : Int) := by
    unfold encByte
    have : (c : Int) % 4294967296 = (c : Int) := by omega
    rw [this, u32_xor_nat _ _ h (by omega), encBits_nat _ (Nat.xor_lt_two_pow (n := 32) (by omega) (by omega))]
  exact ⟨by rw [e, he, hx], _, bNs_lt (Nat.xor_lt_two_pow (n := 32) (by omega) (by omega)) 8, he, rfl⟩
def Bytes (l : List Int) : Prop := ∀ x ∈ l, 0 ≤ x ∧ x < 256
theorem runs_from (l : List Int) (hl : Bytes l) : ∀ s : Nat, s < 4294967296 → l.foldl (fun s c => refBits s c 8) (s : Int) = l.foldl encByte (s : Int) ∧ ∃ q : Nat, q < 4294967296 ∧ l.foldl encByte (s : Int) = (q : Int) := by
  induction l with
  | nil => exact fun s h => ⟨rfl, s, h, rfl⟩
  | cons c l ih =>
    intro s h
    have hc := hl c (by simp)
    obtain ⟨d, rfl⟩ := Int.eq_ofNat_of_zero_le hc.1
    obtain ⟨e1, q, hq, e2, _⟩ := refByte_eq s d h (by omega)
    simp only [List.foldl_cons]
    rw [e1, e2]
    exact ih (fun x hx => hl x (List.mem_cons_of_mem _ hx)) q hq
theorem refSum_eq (l : List Int) (hl : Bytes l) : encSum l = refSum l := by
  obtain ⟨e, q, hq, e2⟩ := runs_from l hl 4294967295 (by decide)
  have e3 : refRun l = encRun l := e
  have e4 : encRun l = (q : Int) := e2
  unfold encSum refSum
  rw [e3, e4]
  have h1 := u32_xor_nat 4294967295 q (by decide) hq
  have h2 := u32_xor_nat q 4294967295 hq (by decide)
  rw [Nat.xor_comm] at h2
  exact h1.trans h2.symm

theorem refSum_any (A0 : Option Addr) (c0 : Nat) (l0 : List Int) (w : World) (hr0 : Kd.C (Kd.int .u8) w A0 l0.length l0) :
    Calls Try.prog 12 #[.slice A0 l0.length c0] w fun e w' => e = .returned (.int .u32 (refSum l0)) ∧ w = w' := by
  have HR0 := Aside0.mk hr0
  have hl0 := C_len hr0
  clear hr0
  go_enter Try.func12, Try.ntmps12
  go_wp2
  go_loop [3, 4] (fun s i => ∃ k : Nat, k ≤ l0.length ∧ i = .int .i64 k ∧ s = .int .u32 (refRun (l0.take k))) (fun _ i => l0.length - (intOf i).toNat)
  case atStart => exact ⟨0, by omega, rfl, rfl⟩
  case round =>
    obtain ⟨k, hkl, rfl, rfl⟩ := hrel
    by_cases hk : k < l0.length
    · obtain ⟨ad, rfl, hx⟩ := at_nat HR0.out k (by omega)
      have HS := Aside0.mk (refRun_snoc l0 k hk)
      go_wp2
      go_loop [3, 5] (fun s j => ∃ m : Nat, m ≤ 8 ∧ j = .int .i64 m ∧ s = .int .u32 (refBits (refRun (l0.take k)) (rd l0 k) m)) (fun _ i => 8 - (intOf i).toNat)
      case atStart => exact ⟨0, by omega, rfl, rfl⟩
      case round =>
        obtain ⟨j, hj8, rfl, rfl⟩ := hrel
        by_cases hj : j < 8
        · go_wp2
          all_goals
            go_round
            case rel => exact ⟨j + 1, by omega, by go_num, by first | rw [refBits_yes (by assumption)] | rw [refBits_no (by assumption)]⟩
            case measure => simp [intOf]; omega
        · obtain rfl : j = 8 := by omega
          go_wp2
          go_round
          case rel => exact ⟨k + 1, by omega, by go_num, by rw [HS.out]⟩
          case measure => simp [intOf]; omega
    · obtain rfl : k = l0.length := by omega
      go_wp2
      go_ret
      exact ⟨ret_int rfl, rfl⟩

end Go.Proofs.Ytighpoelpedneaa

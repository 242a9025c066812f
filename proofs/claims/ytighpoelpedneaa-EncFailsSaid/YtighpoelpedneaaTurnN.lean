import Derived.Test.YtighpoelpedneaaSumB
namespace Go.Proofs.Ytighpoelpedneaa
open Go.RowKit Go.Proofs.YtighpoelpedneaaW.PrintWords
set_option linter.unusedVariables false
set_option linter.unusedSimpArgs false

/-- Bytes as one number, the first the lowest. -/
def valN : List Int → Nat
  | [] => 0
  | c :: l => c.toNat + 256 * valN l
theorem mul_pow_xor (a b j : Nat) : 2 ^ j * (a ^^^ b) = 2 ^ j * a ^^^ 2 ^ j * b := by
  have h := Nat.shiftLeft_xor_distrib (a := a) (b := b) (i := j)
  simp only [Nat.shiftLeft_eq] at h
  rw [Nat.mul_comm, h, Nat.mul_comm a, Nat.mul_comm b]
theorem low_xor (c v : Nat) (hc : c < 256) : c + 256 * v = c ^^^ 256 * v := by
  have e : 256 * v = 2 ^ 8 * v := rfl
  apply Nat.eq_of_testBit_eq
  intro i
  rw [Nat.testBit_xor, Nat.add_comm, e, Nat.testBit_two_pow_mul_add v (by omega : c < 2 ^ 8), Nat.testBit_two_pow_mul]
  by_cases hi : i < 8
  · have h8 : ¬ 8 ≤ i := by omega
    simp [hi, h8]
  · have : c.testBit i = false := Nat.testBit_lt_two_pow (Nat.lt_of_lt_of_le (by omega : c < 2 ^ 8) (Nat.pow_le_pow_right (by decide) (by omega)))
    have h8 : 8 ≤ i := by omega
    simp [hi, this, h8]
theorem bytes_cons {c : Int} {l : List Int} (h : Bytes (c :: l)) : (0 ≤ c ∧ c < 256) ∧ Bytes l := ⟨h c (by simp), fun x hx => h x (List.mem_cons_of_mem _ hx)⟩
theorem run_val (l : List Int) : Bytes l → ∀ s : Nat, s < 4294967296 → l.foldl encByte (s : Int) = ((bNs (s ^^^ valN l) (8 * l.length) : Nat) : Int) := by
  induction l with
  | nil => intro _ s _; simp [valN, bNs]
  | cons c l ih =>
    intro hl s h
    have hcl := bytes_cons hl; clear hl; obtain ⟨hc, hl⟩ := hcl
    obtain ⟨d, rfl⟩ := Int.eq_ofNat_of_zero_le hc.1
    obtain ⟨_, q, hq, e2, e3⟩ := refByte_eq s d h (by omega)
    simp only [List.foldl_cons]
    rw [e2, ih hl q hq]
    congr 1
    have e4 : valN ((d : Int) :: l) = d + 256 * valN l := rfl
    have e5 : 8 * ((d : Int) :: l).length = 8 + 8 * l.length := by simp; omega
    rw [e4, e5, bNs_add, low_xor d _ (by omega), ← Nat.xor_assoc, bNs_xor (s ^^^ d)]
    have e6 : bNs (256 * valN l) 8 = valN l := bNs_pow (valN l) 8
    rw [e6, e3]
theorem valN_lt (l : List Int) : Bytes l → valN l < 2 ^ (8 * l.length) := by
  induction l with
  | nil => intro _; simp [valN]
  | cons c l ih =>
    intro hl
    have hcl := bytes_cons hl; clear hl; obtain ⟨hc, hl⟩ := hcl
    have := ih hl
    have e : 2 ^ (8 * (c :: l).length) = 256 * 2 ^ (8 * l.length) := by
      rw [List.length_cons, Nat.mul_add, Nat.pow_add, Nat.mul_comm]
    rw [e]
    unfold valN
    omega
theorem valN_inj (l : List Int) : ∀ m : List Int, Bytes l → Bytes m → l.length = m.length → valN l = valN m → l = m := by
  induction l with
  | nil => intro m _ _ h _; cases m <;> simp_all
  | cons c l ih =>
    intro m hl hm h e
    cases m with
    | nil => simp at h
    | cons d m =>
      have hcl := bytes_cons hl; clear hl; obtain ⟨hc, hl⟩ := hcl
      obtain ⟨hd, hm⟩ := bytes_cons hm
      unfold valN at e
      have e1 : valN l = valN m := by omega
      rw [ih m hl hm (by simpa using h) e1]
      congr 1
      omega

/-- A byte's bit turned. -/
def flipAt (l : List Int) (i : Nat) : List Int := l.set (i / 8) (Go.bits .xor .u8 (rd l ((i / 8 : Nat) : Int)) (2 ^ (i % 8) % 256))
def flips (l0 : List Int) (f : Nat) (m : Int) : Nat → List Int
  | 0 => l0
  | k + 1 => if Go.bits .and .u32 (m / 2 ^ k) 1 = 1 ∧ f + k < 8 * l0.length then flipAt (flips l0 f m k) (f + k) else flips l0 f m k
theorem flips_yes {l0 : List Int} {f : Nat} {m : Int} {k : Nat} (h1 : Go.bits .and .u32 (m / 2 ^ k) 1 = 1) (h2 : f + k < 8 * l0.length) : flips l0 f m (k + 1) = flipAt (flips l0 f m k) (f + k) := by
  show (if _ then _ else _) = _; rw [if_pos ⟨h1, h2⟩]
theorem flips_no {l0 : List Int} {f : Nat} {m : Int} {k : Nat} (h : ¬ (Go.bits .and .u32 (m / 2 ^ k) 1 = 1 ∧ f + k < 8 * l0.length)) : flips l0 f m (k + 1) = flips l0 f m k := by
  show (if _ then _ else _) = _; rw [if_neg h]
theorem flips_length (l0 : List Int) (f : Nat) (m : Int) (k : Nat) : (flips l0 f m k).length = l0.length := by
  induction k with
  | zero => rfl
  | succ k ih =>
    by_cases h : Go.bits .and .u32 (m / 2 ^ k) 1 = 1 ∧ f + k < 8 * l0.length
    · rw [flips_yes h.1 h.2, flipAt, List.length_set, ih]
    · rw [flips_no h, ih]
/-- one byte set: xor of its place -/
theorem set_val (r : Nat) (hr : r < 8) (l : List Int) : ∀ q : Nat, Bytes l → q < l.length →
    ∃ c : Int, Go.bits .xor .u8 (rd l (q : Int)) (2 ^ r % 256) = c ∧ 0 ≤ c ∧ c < 256 ∧ Bytes (l.set q c) ∧ valN (l.set q c) = valN l ^^^ 2 ^ (8 * q + r) := by
  have hp : 2 ^ r < 256 := Nat.lt_of_lt_of_le (Nat.pow_lt_pow_right (by decide) hr) (by decide)
  have hpi : ((2 : Int) ^ r % 256) = ((2 ^ r : Nat) : Int) := by
    have : ((2 ^ r : Nat) : Int) = (2 : Int) ^ r := by simp
    rw [← this]; exact Int.emod_eq_of_lt (Int.natCast_nonneg _) (Int.ofNat_lt.2 hp)
  induction l with
  | nil => intro q _ h; simp at h
  | cons c l ih =>
    intro q hl hq
    have hcl := bytes_cons hl; clear hl; obtain ⟨hc, hl⟩ := hcl
    cases q with
    | zero =>
      obtain ⟨d, rfl⟩ := Int.eq_ofNat_of_zero_le hc.1
      have hx : (d ^^^ 2 ^ r) < 256 := Nat.xor_lt_two_pow (n := 8) (by omega) hp
      refine ⟨((d ^^^ 2 ^ r : Nat) : Int), ?_, by omega, by omega, ?_, ?_⟩
      · have : rd ((d : Int) :: l) ((0 : Nat) : Int) = (d : Int) := rfl
        rw [this, hpi]
        exact u8_xor_nat _ _ (by omega) hp
      · intro y hy
        rcases List.mem_cons.1 hy with rfl | hy
        · omega
        · exact hl y hy
      · show (d ^^^ 2 ^ r) + 256 * valN l = (d + 256 * valN l) ^^^ 2 ^ (8 * 0 + r)
        rw [low_xor _ _ hx, low_xor d _ (by omega), Nat.mul_zero, Nat.zero_add, Nat.xor_assoc, Nat.xor_comm (2 ^ r), ← Nat.xor_assoc]
    | succ q =>
      obtain ⟨c', e, h0, h1, hb, hv⟩ := ih q hl (by simpa using hq)
      refine ⟨c', ?_, h0, h1, ?_, ?_⟩
      · have : rd (c :: l) ((q + 1 : Nat) : Int) = rd l (q : Int) := by
          unfold rd
          have e1 : (((q + 1 : Nat) : Int)).toNat = q + 1 := by omega
          have e2 : ((q : Int)).toNat = q := by omega
          rw [e1, e2]; rfl
        rw [this]; exact e
      · intro y hy
        rcases List.mem_cons.1 hy with rfl | hy
        · exact hc
        · exact hb y hy
      · show c.toNat + 256 * valN (l.set q c') = (c.toNat + 256 * valN l) ^^^ 2 ^ (8 * (q + 1) + r)
        rw [hv, low_xor _ _ (by omega), low_xor _ (valN l) (by omega)]
        have e2 : 2 ^ (8 * (q + 1) + r) = 256 * 2 ^ (8 * q + r) := by
          have : 8 * (q + 1) + r = 8 + (8 * q + r) := by omega
          rw [this, Nat.pow_add]
        rw [e2]
        have e3 := mul_pow_xor (valN l) (2 ^ (8 * q + r)) 8
        have e4 : 256 * (valN l ^^^ 2 ^ (8 * q + r)) = 256 * valN l ^^^ 256 * 2 ^ (8 * q + r) := e3
        rw [e4, ← Nat.xor_assoc]
theorem flip_val (l : List Int) (i : Nat) (hl : Bytes l) (hi : i < 8 * l.length) : Bytes (flipAt l i) ∧ valN (flipAt l i) = valN l ^^^ 2 ^ i := by
  obtain ⟨c, e, _, _, hb, hv⟩ := set_val (i % 8) (by omega) l (i / 8) hl (by omega)
  unfold flipAt
  rw [e]
  refine ⟨hb, ?_⟩
  rw [hv]
  congr 2
  omega
theorem flips_val (l0 : List Int) (f : Nat) (m : Int) (hl : Bytes l0) (k : Nat) : Bytes (flips l0 f m k) ∧ ∃ E : Nat, E < 2 ^ k ∧ valN (flips l0 f m k) = valN l0 ^^^ 2 ^ f * E := by
  induction k with
  | zero => exact ⟨hl, 0, by decide, by simp [flips]⟩
  | succ k ih =>
    obtain ⟨hb, E, hE, hv⟩ := ih
    by_cases h : Go.bits .and .u32 (m / 2 ^ k) 1 = 1 ∧ f + k < 8 * l0.length
    · rw [flips_yes h.1 h.2]
      obtain ⟨hb', hv'⟩ := flip_val _ (f + k) hb (by rw [flips_length]; exact h.2)
      refine ⟨hb', E ^^^ 2 ^ k, Nat.xor_lt_two_pow (Nat.lt_of_lt_of_le hE (Nat.pow_le_pow_right (by decide) (by omega))) (Nat.pow_lt_pow_right (by decide) (by omega)), ?_⟩
      rw [hv', hv, mul_pow_xor, Nat.pow_add, Nat.xor_assoc]
    · rw [flips_no h]
      exact ⟨hb, E, Nat.lt_of_lt_of_le hE (Nat.pow_le_pow_right (by decide) (by omega)), hv⟩
theorem sum_nat (l : List Int) (hl : Bytes l) : ∃ q : Nat, q < 4294967296 ∧ q = bNs (4294967295 ^^^ valN l) (8 * l.length) ∧ encSum l = ((4294967295 ^^^ q : Nat) : Int) := by
  have h := run_val l hl 4294967295 (by decide)
  obtain ⟨_, q, hq, e⟩ := runs_from l hl 4294967295 (by decide)
  have hq2 : q = bNs (4294967295 ^^^ valN l) (8 * l.length) := by
    have : (q : Int) = _ := e.symm.trans h
    exact Int.ofNat.inj this
  refine ⟨q, hq, hq2, ?_⟩
  unfold encSum encRun
  have e' : List.foldl encByte 4294967295 l = (q : Int) := e
  rw [e']
  exact u32_xor_nat 4294967295 q (by decide) hq
/-- THE LAW: with bits turned within a run of 32 the sum is another one. -/
theorem turns_law (l0 : List Int) (f : Nat) (m : Int) (hl : Bytes l0) (hf : f < 8 * l0.length) :
    (encSum (flips l0 f m 32) = encSum l0) ↔ flips l0 f m 32 = l0 := by
  refine ⟨fun h => ?_, fun h => by rw [h]⟩
  obtain ⟨hb, E, hE, hv⟩ := flips_val l0 f m hl 32
  obtain ⟨q, hq, hq2, e1⟩ := sum_nat _ hb
  obtain ⟨p, hp, hp2, e2⟩ := sum_nat _ hl
  rw [flips_length] at hq2
  have h2 : 4294967295 ^^^ q = 4294967295 ^^^ p := by
    have : ((4294967295 ^^^ q : Nat) : Int) = ((4294967295 ^^^ p : Nat) : Int) := by rw [← e1, ← e2, h]
    exact Int.ofNat.inj this
  have h3 : q = p := by
    have := congrArg (4294967295 ^^^ ·) h2
    simpa [← Nat.xor_assoc] using this
  have h4 : bNs (2 ^ f * E) (8 * l0.length) = 0 := by
    have e : 2 ^ f * E = (4294967295 ^^^ valN (flips l0 f m 32)) ^^^ (4294967295 ^^^ valN l0) := by
      rw [hv, Nat.xor_assoc, ← Nat.xor_assoc _ 4294967295, Nat.xor_comm _ 4294967295, ← Nat.xor_assoc, ← Nat.xor_assoc, Nat.xor_self, Nat.zero_xor, Nat.xor_comm (valN l0), Nat.xor_assoc, Nat.xor_self, Nat.xor_zero]
    rw [e, bNs_xor, ← hq2, ← hp2, h3, Nat.xor_self]
  have h5 : 8 * l0.length = f + (8 * l0.length - f) := by omega
  rw [h5, bNs_add, bNs_pow] at h4
  have hE0 : E = 0 := bNs_inj (by simpa using hE) _ h4
  subst hE0
  rw [Nat.mul_zero, Nat.xor_zero] at hv
  exact valN_inj _ _ hb hl (flips_length _ _ _ _) hv

end Go.Proofs.Ytighpoelpedneaa

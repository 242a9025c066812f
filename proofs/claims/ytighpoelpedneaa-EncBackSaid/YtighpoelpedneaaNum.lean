import Derived.Test.YtighpoelpedneaaOwn
namespace Go.Proofs.Ytighpoelpedneaa
open Go.RowKit Go.Proofs.YtighpoelpedneaaW.PrintWords
set_option linter.unusedVariables false
set_option linter.unusedSimpArgs false

def mxI (a b : Int) : Int := if a < b then b else a
def mnI (a b : Int) : Int := if b < a then b else a
theorem run_max (P : Program) (ats : Array TypeId) (ty : TypeId) (k : IntKind) (x y : Int) (W : World) : (Builtin.max_ ats ty #[.int k x, .int k y]).run P W = .ok (.int k (mxI x y)) W := by
  simp only [Builtin.max_, List.foldlM_cons, List.foldlM_nil, Builtin.max2, gt_iff_lt]
  unfold mxI
  split <;> rfl
theorem run_min (P : Program) (ats : Array TypeId) (ty : TypeId) (k : IntKind) (x y : Int) (W : World) : (Builtin.min_ ats ty #[.int k x, .int k y]).run P W = .ok (.int k (mnI x y)) W := by
  simp only [Builtin.min_, List.foldlM_cons, List.foldlM_nil, Builtin.min2]
  unfold mnI
  split <;> rfl
/-- The number that counts. -/
def clamp (n : Int) : Int := mnI (mxI n 0) 4611686018427387904
theorem clamp_bd (n : Int) : 0 ≤ clamp n ∧ clamp n ≤ 4611686018427387904 := by
  unfold clamp mnI mxI
  split <;> split <;> omega
/-- A number's bytes. -/
def numL : Nat → Int → List Int
  | 0, u => [u % 256]
  | f + 1, u => if 127 < u then Go.bits .or .u8 (u % 256) 128 :: numL f (u / 128) else [u % 256]
theorem numL_yes {f : Nat} {u : Int} (h : 127 < u) : numL (f + 1) u = Go.bits .or .u8 (u % 256) 128 :: numL f (u / 128) := by
  show (if _ then _ else _) = _; rw [if_pos h]
theorem numL_no {f : Nat} {u : Int} (h : ¬ 127 < u) : numL f u = [u % 256] := by
  cases f with
  | zero => rfl
  | succ f => show (if _ then _ else _) = _; rw [if_neg h]
theorem numL_len (f : Nat) : ∀ u : Int, 1 ≤ (numL f u).length ∧ (numL f u).length ≤ f + 1 := by
  induction f with
  | zero => intro u; simp [numL]
  | succ f ih =>
    intro u
    by_cases h : 127 < u
    · rw [numL_yes h]
      have := ih (u / 128)
      simp only [List.length_cons]
      omega
    · rw [numL_no h]
      simp
def encNum (n : Int) : List Int := numL 8 (clamp n)
/-- what is left after f more bytes is small -/
def fits (f : Nat) (u : Int) : Prop := u < 128 ^ (f + 1)
theorem fits_start {u : Int} (h : u ≤ 4611686018427387904) : fits 8 u := by
  unfold fits
  have : (128 : Int) ^ (8 + 1) = 9223372036854775808 := by decide
  omega
theorem fits_next {f : Nat} {u : Int} (h : fits (f + 1) u) (h0 : 127 < u) : fits f (u / 128) := by
  unfold fits at *
  have e : (128 : Int) ^ (f + 1 + 1) = 128 ^ (f + 1) * 128 := Int.pow_succ _ _
  rw [e] at h
  exact Int.ediv_lt_of_lt_mul (by decide) h
theorem fits_zero {u : Int} (h : fits 0 u) : u ≤ 127 := by
  unfold fits at h
  have : (128 : Int) ^ (0 + 1) = 128 := by decide
  omega

theorem encNum_any (A : Option Addr) (c : Nat) (l : List Int) (n : Int) (w : World) (hr : (Kd.int .u8).C w A l.length l) (hb : l.length + 10 ≤ 140737488355328) :
    Calls Try.prog 15 #[.slice A l.length c, .int .i64 n] w (Made w (l ++ encNum n)) := by
  have hmx := fun W => run_max Try.prog #[2, 2] 2 .i64 n 0 W
  have hmn := fun W x => run_min Try.prog #[2, 2] 2 .i64 x 4611686018427387904 W
  obtain ⟨hu1, hu2⟩ := clamp_bd n
  obtain ⟨u0, hu⟩ : ∃ u0, clamp n = u0 := ⟨_, rfl⟩
  rw [hu] at hu1 hu2
  have HU := Aside0.mk hu
  have hu' : mnI (mxI n 0) 4611686018427387904 = u0 := hu
  clear hu
  have HR := Aside0.mk hr
  clear hr
  go_enter Try.func15, Try.ntmps15
  go_wp2_with (first | (go_at_call 39; (with_reducible refine (clone_any A c l w HR.out (by omega)).mono ?_); rintro e w1 ⟨v1, rfl, ho, hb1⟩; have HO := Aside0.mk ho; have HB := Aside0.mk hb1; clear ho hb1))
  clear hu' hmx hmn
  go_loopw [5, 6] (fun v u wr => ∃ (f : Nat) (pre : List Int) (x : Int), pre.length + f = 8 ∧ 0 ≤ x ∧ x ≤ 4611686018427387904 ∧ u = .int .u64 x ∧ Aside0 (fits f x) ∧ Aside0 (pre ++ numL f x = numL 8 u0) ∧ Aside0 ((Kd.int .u8).R 5 wr w.heap.size (fun _ => True) v (l ++ pre)) ∧ Aside0 (Below w.heap.size w wr)) (fun _ u _ => (intOf u).toNat)
  case atStart => exact ⟨8, [], u0, rfl, hu1, hu2, rfl, ⟨fits_start hu2⟩, ⟨rfl⟩, ⟨by rw [List.append_nil]; exact HO.out⟩, ⟨HB.out⟩⟩
  case round =>
    clear HO HB
    obtain ⟨f, pre, x, hf, h0, h1, rfl, HF, HE, HO, HB⟩ := hrel
    by_cases hx : 127 < x
    · have hx0 : 0 ≤ x / 128 ∧ x / 128 ≤ 4611686018427387904 ∧ x / 128 < x := by omega
      obtain ⟨f', hf'⟩ : ∃ f', f = f' + 1 := by
        cases f with
        | zero => have := fits_zero HF.out; omega
        | succ f' => exact ⟨f', rfl⟩
      subst hf'
      have HF' := Aside0.mk (fits_next HF.out hx)
      have HE' := Aside0.mk (show (pre ++ [Go.bits .or .u8 (x % 256) 128]) ++ numL f' (x / 128) = numL 8 u0 by
        rw [← HE.out, numL_yes hx, List.append_assoc]; rfl)
      clear HE HF
      go_wp2_with (first | (at_builtin; refine app_one (w0 := w) (base := w.heap.size) rfl (.tmp 15) (.tmp 19) rfl _ (l ++ pre) _ rfl rfl HO.out HB.out HB.out.size ?c1 ?_; (case c1 => simp; omega); intro v2 w2 ho hb2 hg; have HO2 := Aside0.mk ho; have HB2 := Aside0.mk hb2; clear ho hb2 hg))
      go_roundw
      case rel => exact ⟨f', pre ++ [Go.bits .or .u8 (x % 256) 128], x / 128, by simp; omega, by omega, by omega, rfl, HF', HE', ⟨by rw [← List.append_assoc]; exact HO2.out⟩, HB2⟩
      case measure => simp [intOf]; omega
    · have HE' := Aside0.mk (show pre ++ [x] = encNum n by
        unfold encNum
        rw [HU.out, ← HE.out, numL_no hx, show x % 256 = x by omega])
      clear HE HF
      go_wp2_with (first | (at_builtin; refine app_one (w0 := w) (base := w.heap.size) rfl (.tmp 23) (.tmp 26) rfl _ (l ++ pre) _ rfl rfl HO.out HB.out HB.out.size ?c1 ?_; (case c1 => simp; omega); intro v2 w2 ho hb2 hg; have HO2 := Aside0.mk ho; have HB2 := Aside0.mk hb2; clear ho hb2 hg))
      go_ret
      exact ⟨v2, rfl, by rw [← HE'.out, ← List.append_assoc]; exact HO2.out, HB2.out⟩
end Go.Proofs.Ytighpoelpedneaa

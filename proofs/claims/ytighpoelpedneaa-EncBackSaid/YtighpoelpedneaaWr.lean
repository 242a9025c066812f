import Derived.Test.YtighpoelpedneaaNum
import Derived.Test.YtighpoelpedneaaSumC
import Derived.Laws.BitsAllLaws
import Derived.Lib.AppendStr
namespace Go.Proofs.Ytighpoelpedneaa
open Go.RowKit Go.Proofs.YtighpoelpedneaaW.PrintWords
set_option linter.unusedVariables false
set_option linter.unusedSimpArgs false

theorem or128 (u : Int) (h : 0 ≤ u) : Go.bits .or .u8 (u % 256) 128 = u % 128 + 128 := by
  obtain ⟨n, rfl⟩ := Int.eq_ofNat_of_zero_le h
  have e : (n : Int) % 256 = ((n % 256 : Nat) : Int) := by omega
  rw [e]
  have h1 := u8_or_nat (n % 256) 128 (by omega) (by decide)
  have h2 : ∀ y : Fin 256, (y.val ||| 128) = y.val % 128 + 128 := by decide +kernel
  have h3 := h2 ⟨n % 256, by omega⟩
  simp only at h3
  rw [h3] at h1
  have h4 : (((n % 256 % 128 + 128 : Nat)) : Int) = (n : Int) % 128 + 128 := by omega
  rw [← h4]
  exact h1
theorem numL_step {f : Nat} {u : Int} (h : 128 ≤ u) : numL (f + 1) u = (u % 128 + 128) :: numL f (u / 128) := by
  rw [numL_yes (by omega), or128 u (by omega)]
theorem refClamp (n : Int) : clamp n = if n < 0 then 0 else if 4611686018427387904 < n then 4611686018427387904 else n := by
  unfold clamp mnI mxI
  split <;> split <;> first | omega | (split <;> omega) | skip

theorem refNum_any (n : Int) (w : World) :
    Calls Try.prog 18 #[.int .i64 n] w (Made w (encNum n)) := by
  have hcl := refClamp n
  have key : ∀ u0 : Int, clamp n = u0 → Aside0 (encNum n = numL 8 u0) := fun u0 h => ⟨by rw [encNum, h]⟩
  have hc3 : (n < 0 ∧ Aside0 (encNum n = numL 8 0) ∧ (0 : Int) ≤ 0 ∧ (0 : Int) ≤ 4611686018427387904) ∨
      ((¬ n < 0) ∧ 4611686018427387904 < n ∧ Aside0 (encNum n = numL 8 4611686018427387904) ∧ (0 : Int) ≤ 4611686018427387904 ∧ (4611686018427387904 : Int) ≤ 4611686018427387904) ∨
      ((¬ n < 0) ∧ (¬ 4611686018427387904 < n) ∧ Aside0 (encNum n = numL 8 n) ∧ 0 ≤ n ∧ n ≤ 4611686018427387904) := by
    by_cases h1 : n < 0
    · rw [if_pos h1] at hcl
      exact .inl ⟨h1, key _ hcl, by omega, by omega⟩
    · by_cases h2 : 4611686018427387904 < n
      · rw [if_neg h1, if_pos h2] at hcl
        exact .inr (.inl ⟨h1, h2, key _ hcl, by omega, by omega⟩)
      · rw [if_neg h1, if_neg h2] at hcl
        exact .inr (.inr ⟨h1, h2, key _ hcl, by omega, by omega⟩)
  clear hcl key
  rcases hc3 with ⟨h1, HK, hb⟩ | ⟨h1, h2, HK, hb⟩ | ⟨h1, h2, HK, hb⟩
  all_goals
    have HBB := Aside0.mk hb
    clear hb
    go_enter Try.func18, Try.ntmps18
    go_wp2
    go_loopw [0, 3] (fun u v wr => ∃ (f : Nat) (pre : List Int) (x : Int), pre.length + f = 8 ∧ 0 ≤ x ∧ x ≤ 4611686018427387904 ∧ u = .int .i64 x ∧ Aside0 (fits f x) ∧ Aside0 (pre ++ numL f x = encNum n) ∧ Aside0 ((Kd.int .u8).R 5 wr w.heap.size (fun _ => True) v pre) ∧ Aside0 (Below w.heap.size w wr)) (fun u _ _ => (intOf u).toNat)
    case atStart => exact ⟨8, [], _, rfl, HBB.out.1, HBB.out.2, rfl, ⟨fits_start HBB.out.2⟩, ⟨HK.out.symm⟩, ⟨R_empty _ _ _ _ (Nat.le_refl _)⟩, ⟨below_alloc (Below.refl _ _) _⟩⟩
    case round =>
      clear HK HBB
      obtain ⟨f, pre, x, hf, h0, h1, rfl, HF, HE, HO, HB⟩ := hrel
      by_cases hx : 128 ≤ x
      · have hx0 : 0 ≤ x / 128 ∧ x / 128 ≤ 4611686018427387904 ∧ x / 128 < x ∧ 0 ≤ x % 128 ∧ x % 128 < 128 := by omega
        obtain ⟨f', hf'⟩ : ∃ f', f = f' + 1 := by
          cases f with
          | zero => have := fits_zero HF.out; omega
          | succ f' => exact ⟨f', rfl⟩
        subst hf'
        have HF' := Aside0.mk (fits_next HF.out (by omega))
        have HE' := Aside0.mk (show (pre ++ [x % 128 + 128]) ++ numL f' (x / 128) = encNum n by
          rw [← HE.out, numL_step hx, List.append_assoc]; rfl)
        clear HE HF
        go_wp2_with (first | (at_builtin; refine app_one (w0 := w) (base := w.heap.size) rfl (.tmp 11) (.tmp 16) rfl _ pre _ rfl rfl HO.out HB.out HB.out.size ?c1 ?_; (case c1 => omega); intro v2 w2 ho hb2 hg; have HO2 := Aside0.mk ho; have HB2 := Aside0.mk hb2; clear ho hb2 hg))
        go_roundw
        case rel => exact ⟨f', pre ++ [x % 128 + 128], x / 128, by simp; omega, by omega, by omega, rfl, HF', HE', HO2, HB2⟩
        case measure => simp [intOf]; omega
      · have HE' := Aside0.mk (show pre ++ [x] = encNum n by
          rw [← HE.out, numL_no (by omega), show x % 256 = x by omega])
        clear HE HF
        go_wp2_with (first | (at_builtin; refine app_one (w0 := w) (base := w.heap.size) rfl (.tmp 20) (.tmp 23) rfl _ pre _ rfl rfl HO.out HB.out HB.out.size ?c1 ?_; (case c1 => omega); intro v2 w2 ho hb2 hg; have HO2 := Aside0.mk ho; have HB2 := Aside0.mk hb2; clear ho hb2 hg))
        go_ret
        exact ⟨v2, rfl, by rw [← HE'.out]; exact HO2.out, HB2.out⟩

/-! Join -/
theorem join_any (A0 : Option Addr) (c0 : Nat) (l0 : List Int) (A1 : Option Addr) (c1 : Nat) (l1 : List Int) (w : World) (hr0 : Kd.C (Kd.int .u8) w A0 l0.length l0) (hr1 : Kd.C (Kd.int .u8) w A1 l1.length l1) (hb : l0.length + l1.length ≤ 140737488355328) :
    Calls Try.prog 17 #[.slice A0 l0.length c0, .slice A1 l1.length c1] w (Made w (l0 ++ l1)) := by
  have HR0 := Aside0.mk hr0
  have HR1 := Aside0.mk hr1
  clear hr0 hr1
  go_enter Try.func17, Try.ntmps17
  go_wp2
  go_loopw [5, 6] (fun v i wr => ∃ k : Nat, k ≤ l0.length ∧ i = .int .i64 k ∧ Aside0 ((Kd.int .u8).R 5 wr w.heap.size (fun _ => True) v (l0.take k)) ∧ Aside0 (Below w.heap.size w wr)) (fun _ i _ => l0.length - (intOf i).toNat)
  case atStart => exact ⟨0, by omega, rfl, ⟨R_empty _ _ _ _ (Nat.le_refl _)⟩, ⟨below_alloc (Below.refl _ _) _⟩⟩
  case round =>
    obtain ⟨k, hk, rfl, HO, HB⟩ := hrel
    by_cases hlt : k < l0.length
    · obtain ⟨ad, rfl, hx⟩ := at_nat (Kd.C_below HR0.out HB.out) k hlt
      have HT := Aside0.mk (show l0.take k ++ [rd l0 k] = l0.take (k + 1) by
        rw [List.take_succ_eq_append_getElem hlt]; simp [rd, hlt])
      have HL := Aside0.mk (show (l0.take k).length ≤ k from List.length_take_le _ _)
      go_wp2_with (first | (at_builtin; refine app_one (w0 := w) (base := w.heap.size) rfl (.tmp 15) (.tmp 20) rfl _ (l0.take k) _ rfl rfl HO.out HB.out HB.out.size ?c1 ?_; (case c1 => have := HL.out; omega); intro v2 w2 ho hb2 hg; have HO2 := Aside0.mk ho; have HB2 := Aside0.mk hb2; clear ho hb2 hg))
      go_roundw
      case rel => exact ⟨k + 1, by omega, by go_num, ⟨by rw [← HT.out]; exact HO2.out⟩, HB2⟩
      case measure => simp [intOf]; omega
    · obtain rfl : k = l0.length := by omega
      rw [List.take_length] at HO
      go_wp2
      go_loopw [5, 7] (fun v i wr => ∃ k : Nat, k ≤ l1.length ∧ i = .int .i64 k ∧ Aside0 ((Kd.int .u8).R 5 wr w.heap.size (fun _ => True) v (l0 ++ l1.take k)) ∧ Aside0 (Below w.heap.size w wr)) (fun _ i _ => l1.length - (intOf i).toNat)
      case atStart => exact ⟨0, by omega, rfl, ⟨by rw [List.take_zero, List.append_nil]; exact HO.out⟩, HB⟩
      case round =>
        clear HO HB
        obtain ⟨k, hk, rfl, HO, HB⟩ := hrel
        by_cases hlt : k < l1.length
        · obtain ⟨ad, rfl, hx⟩ := at_nat (Kd.C_below HR1.out HB.out) k hlt
          have HT := Aside0.mk (show (l0 ++ l1.take k) ++ [rd l1 k] = l0 ++ l1.take (k + 1) by
            rw [List.take_succ_eq_append_getElem hlt, List.append_assoc]; simp [rd, hlt])
          have HL := Aside0.mk (show (l0 ++ l1.take k).length ≤ l0.length + k by simp; omega)
          go_wp2_with (first | (at_builtin; refine app_one (w0 := w) (base := w.heap.size) rfl (.tmp 28) (.tmp 33) rfl _ (l0 ++ l1.take k) _ rfl rfl HO.out HB.out HB.out.size ?c1 ?_; (case c1 => have := HL.out; omega); intro v2 w2 ho hb2 hg; have HO2 := Aside0.mk ho; have HB2 := Aside0.mk hb2; clear ho hb2 hg))
          go_roundw
          case rel => exact ⟨k + 1, by omega, by go_num, ⟨by rw [← HT.out]; exact HO2.out⟩, HB2⟩
          case measure => simp [intOf]; omega
        · obtain rfl : k = l1.length := by omega
          rw [List.take_length] at HO
          go_wp2
          go_ret
          exact ⟨_, rfl, HO.out, HB.out⟩

/-! Four -/
theorem R_new (w : World) (cs : Array Value) (e : Nat) (xs : List Int) (hl : xs.length ≤ 9223372036854775807) (hx : cs.toList = xs.map (Value.int .u8)) : (Kd.int .u8).R e (w.alloc (.cells cs e)) w.heap.size (fun _ => True) (.slice (some ⟨w.heap.size, 0, none⟩) xs.length xs.length) xs := by
  have hs : cs.size = xs.length := by rw [← Array.length_toList, hx, List.length_map]
  have e1 : xs.length * (Kd.int .u8).sz = xs.length := Nat.mul_one _
  refine ⟨fun _ _ => trivial, xs.map (Value.int .u8), ⟨by rw [e1, List.length_map], .inr ⟨w.heap.size, xs.length, cs, rfl, Nat.le_refl _, heap_alloc_new w _, Nat.le_refl _, by simpa [maxLen] using hl, by rw [hs, e1], by rw [hx, e1, List.take_of_length_le]; simp⟩⟩, by rw [e1, List.length_map], fun j p hj => ?_⟩
  show ((xs.map (Value.int .u8)).drop (j * 1)).take 1 = [Value.int .u8 p]
  rw [Nat.mul_one]
  have hj' : j < xs.length := (List.getElem?_eq_some_iff.1 hj).1
  have e1 : xs[j] = p := (List.getElem?_eq_some_iff.1 hj).2
  rw [List.drop_eq_getElem_cons (by simpa using hj')]
  simp [e1]
def four (u : Int) : List Int := [u % 256, u / 256 % 256, u / 65536 % 256, u / 16777216]
theorem four_at (u : Int) (j : Nat) (hj : j < (four u).length) : (#[Value.int IntKind.u8 (u % 256), Value.int IntKind.u8 (u / 256 % 256), Value.int IntKind.u8 (u / 65536 % 256), Value.int IntKind.u8 (u / 16777216)] : Array Value)[j]? = some (.int .u8 ((four u).getD j 0)) := by
  have : j < 4 := hj
  match j, this with
  | 0, _ => rfl
  | 1, _ => rfl
  | 2, _ => rfl
  | 3, _ => rfl
theorem encFour_any (A : Option Addr) (c : Nat) (l : List Int) (u : Int) (w : World) (hr : (Kd.int .u8).C w A l.length l) (hb : l.length + 10 ≤ 140737488355328) (hu : 0 ≤ u ∧ u < 4294967296) :
    Calls Try.prog 16 #[.slice A l.length c, .int .u32 u] w (Made w (l ++ four u)) := by
  have HR := Aside0.mk hr
  clear hr
  obtain ⟨hu0, hu1⟩ := hu
  go_enter Try.func16, Try.ntmps16
  go_wp2_with (first
    | (go_at_call 39; (with_reducible refine (clone_any A c l w HR.out (by omega)).mono ?_); rintro e w1 ⟨v1, rfl, ho, hb1⟩; have HO := Aside0.mk ho; have HB := Aside0.mk hb1; clear ho hb1)
    | (at_builtin; refine app_row (w0 := w) (base := w.heap.size) rfl (.tmp 6) (.tmp 18) rfl _ l (four u) (some ⟨w1.heap.size, 0, none⟩) 4 4 rfl rfl (Kd.R_alloc HO.out _) (C_new w1 _ 5 _ (four u) ?c0 ?c2) (below_alloc HB.out _) (below_alloc HB.out _).size ?c1 ?_; (case c1 => omega); (case c2 => simp [four]); (case c0 => exact fun j hj => four_at u j hj); intro v2 w2 ho hb2 hg; have HO2 := Aside0.mk ho; have HB2 := Aside0.mk hb2; clear ho hb2 hg))
  go_ret
  exact ⟨_, rfl, HO2.out, HB2.out⟩
theorem refFour_any (u : Int) (w : World) (hu : 0 ≤ u ∧ u < 4294967296) :
    Calls Try.prog 23 #[.int .u32 u] w (Made w (four u)) := by
  obtain ⟨hu0, hu1⟩ := hu
  go_enter Try.func23, Try.ntmps23
  go_wp2
  go_ret
  exact ⟨_, rfl, R_new w _ 5 (four u) (by simp [four]) rfl, below_alloc (Below.refl _ _) _⟩
end Go.Proofs.Ytighpoelpedneaa

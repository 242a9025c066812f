import Derived.Test.YtighpoelpedneaaEqArr
import Derived.Test.YtighpoelpedneaaTurnN
namespace Go.Proofs.Ytighpoelpedneaa
open Go Go.RowKit Go.Proofs.YtighpoelpedneaaW.PrintWords
set_option linter.unusedVariables false
set_option linter.unusedSimpArgs false

theorem mask64 (x m : Int) (h0 : 0 ≤ m) (h1 : m < 9223372036854775808) : 0 ≤ Go.bits .and .i64 x m ∧ Go.bits .and .i64 x m ≤ m := by
  obtain ⟨n, rfl⟩ := Int.eq_ofNat_of_zero_le h0
  show 0 ≤ IntKind.i64.wrap ((BitVec.ofInt 64 x &&& BitVec.ofInt 64 (n : Int)).toNat : Int) ∧ IntKind.i64.wrap ((BitVec.ofInt 64 x &&& BitVec.ofInt 64 (n : Int)).toNat : Int) ≤ n
  have hn : (BitVec.ofInt 64 (n : Int)).toNat = n := by
    rw [BitVec.ofInt_natCast, BitVec.toNat_ofNat]; exact Nat.mod_eq_of_lt (by omega)
  have hle : (BitVec.ofInt 64 x &&& BitVec.ofInt 64 (n : Int)).toNat ≤ n := by
    rw [BitVec.toNat_and, hn]; exact Nat.and_le_right
  rw [IntKind.wrap_i64]
  omega
theorem numR_dead (most : Int) : numR most [] true = (0, [], true) := by unfold numR; simp
theorem textR_dead (most : Int) : textR most [] true = ([], [], true) := by unfold textR; rw [numR_dead]; simp
theorem idR_dead : idR [] true = (zeros32, [], true) := by unfold idR; simp
theorem fourR_dead : fourR [] true = (0, [], true) := by unfold fourR; simp
theorem deadText (w0 w : World) (g : Nat) (most : Int) (h : Rd w0 w g [] true) (hm : (Lit.int .i64 most).wf = true) :
    Calls Try.prog 29 #[.pointer (some ⟨g, 0, none⟩), .int .i64 most] w fun e w' => e = .returned (.string ⟨#[]⟩) ∧ Rd w0 w' g [] true :=
  (rdText_any w0 w g [] true most h (fun _ h => by cases h) hm).mono fun _ _ h => by
    rw [textR_dead] at h
    have es : strOfNums [] = ⟨#[]⟩ := by decide +kernel
    exact ⟨by rw [h.1]; show Ending.returned (.string (strOfNums [])) = _; rw [es], h.2.1⟩
theorem eqz (W : World) : (Op.equalIn 10000 32 (.agg (List.map (Value.int .u8) zeros32).toArray) (.agg #[Value.int .u8 0, Value.int .u8 0, Value.int .u8 0, Value.int .u8 0, Value.int .u8 0, Value.int .u8 0, Value.int .u8 0, Value.int .u8 0, Value.int .u8 0, Value.int .u8 0, Value.int .u8 0, Value.int .u8 0, Value.int .u8 0, Value.int .u8 0, Value.int .u8 0, Value.int .u8 0, Value.int .u8 0, Value.int .u8 0, Value.int .u8 0, Value.int .u8 0, Value.int .u8 0, Value.int .u8 0, Value.int .u8 0, Value.int .u8 0, Value.int .u8 0, Value.int .u8 0, Value.int .u8 0, Value.int .u8 0, Value.int .u8 0, Value.int .u8 0, Value.int .u8 0, Value.int .u8 0])).run Try.prog W = .ok true W :=
  (eq32 W zeros32 zeros32 rfl rfl).trans (by rw [decide_eq_true rfl])
theorem EncFails_walk (A0 : Option Addr) (c0 : Nat) (l0 : List Int) (x : Int) (A2 : Option Addr) (c2 : Nat) (l2 : List Int) (w : World) (hr0 : Kd.C (Kd.int .u8) w A0 l0.length l0) (hc0 : l0.length ≤ c0) (hw0 : ∀ x ∈ l0, (Lit.int .u8 x).wf = true) (hb0 : l0.length * 1 ≤ 140737488351232)
    (hw1 : (Lit.int .i64 x).wf = true) (hr2 : Kd.C (Kd.int .i64) w A2 l2.length l2) (hc2 : l2.length ≤ c2) (hw2 : ∀ x ∈ l2, (Lit.int .i64 x).wf = true) (hb2 : l2.length * 8 ≤ 140737488351232) :
    Calls Try.prog 8 #[.slice A0 l0.length c0, .int .i64 x, .slice A2 l2.length c2] w fun e w' => e = .returned (.bool true) ∧ Below w.heap.size w w' := by
  have HC0 := Aside0.mk hr0
  have HC2 := Aside0.mk hr2
  have HBY := Aside0.mk (show Bytes l0 from fun b hb => wf_u8 (hw0 b hb))
  have H0 := Aside0.mk hb0
  clear hr0 hr2 hw0 hw1 hw2 hb0 hb2
  by_cases hbig : 500 < l0.length ∨ 50 < l2.length
  · by_cases h5 : 500 < l0.length
    · go_enter Try.func8, Try.ntmps8
      go_wp2_with (first | (go_at_call 25; refine (reading_any _).mono ?_; rintro e w1 ⟨rfl, hb⟩; have HB1 := Aside0.mk hb; clear hb))
      go_ret
      exact ⟨rfl, HB1.out⟩
    · have h50 : 50 < l2.length := by omega
      clear hbig
      go_enter Try.func8, Try.ntmps8
      go_wp2_with (first | (go_at_call 25; refine (reading_any _).mono ?_; rintro e w1 ⟨rfl, hb⟩; have HB1 := Aside0.mk hb; clear hb))
      go_ret
      exact ⟨rfl, HB1.out⟩
  have h5 : l0.length ≤ 500 := by omega
  have h50 : l2.length ≤ 50 := by omega
  clear hbig
  have HM := Aside0.mk (mask64 x 63 (by decide) (by decide))
  obtain ⟨m, hm⟩ : ∃ m, Go.bits .and .i64 x 63 = m := ⟨_, rfl⟩
  rw [hm] at HM
  obtain ⟨hm0, hm1⟩ := HM.out
  have hz := eqz
  go_enter Try.func8, Try.ntmps8
  go_wp2_with (first
    | (go_at_call 25; refine (reading_any _).mono ?_; rintro e w1 ⟨rfl, hb⟩; have HB1 := Aside0.mk hb; clear hb)
    | (go_at_call 24; refine (read_any A0 c0 l0 _ (Kd.C_below HC0.out HB1.out) (by have := H0.out; omega)).mono ?_; rintro e w2 ⟨g, rfl, hr, hb⟩; have HR2 := Aside0.mk (hr.base HB1.out); clear hr hb))
  clear hm HM
  go_loopw [8] (fun i wr => ∃ (k : Int) (l : List Int) (bad : Bool), i = .int .i64 k ∧ 0 ≤ k ∧ k ≤ m ∧ Aside0 (Bytes l) ∧ Aside0 (Rd w wr g l bad)) (fun i _ => (m - intOf i).toNat)
  case atStart => exact ⟨0, l0, false, rfl, by omega, by omega, HBY, HR2⟩
  case round =>
    clear HR2 HBY
    obtain ⟨k, l, bad, rfl, hk0, hk1, HBY, HR⟩ := hrel
    by_cases hgo : k < m ∧ 0 < l.length
    · obtain ⟨hkm, hl0⟩ := hgo
      have HN := Aside0.mk (numR_facts 4611686018427387904 l bad HBY.out)
      go_wp2_with (first
        | (go_at_call 36; refine (left_any w _ g l bad HR.out).mono ?_; rintro e w3 ⟨rfl, rfl⟩)
        | (go_at_call 27; refine (rdNum_any w _ g l bad 4611686018427387904 HR.out HBY.out (by decide)).mono ?_; rintro e w3 ⟨rfl, hr3, hg3⟩; have HR3 := Aside0.mk hr3; clear hr3 hg3))
      go_roundw
      case rel => exact ⟨k + 1, _, _, by go_num, by omega, by omega, ⟨HN.out.1⟩, HR3⟩
      case measure => simp [intOf]; omega
    · have hdone : ¬ k < m ∨ (k < m ∧ l.length = 0) := by omega
      clear hgo
      rcases hdone with h | ⟨h, h0⟩
      all_goals (
        try (have h0' : ¬ (0 : Int) < (l.length : Int) := by omega)
        go_wp2_with (first
          | (go_at_call 36; refine (left_any w _ g l bad HR.out).mono ?_; rintro e w3 ⟨rfl, rfl⟩)
          | (go_at_call 34; refine (fail_any w _ g l bad HR.out).mono ?_; rintro e w4 ⟨rfl, hr4, hg4⟩; have HR4 := Aside0.mk hr4; clear hr4 hg4))
        clear HR
        go_loopw [41] (fun i wr => ∃ j : Nat, i = .int .i64 j ∧ j ≤ l2.length ∧ Aside0 (Rd w wr g [] true)) (fun i _ => l2.length - (intOf i).toNat)
        case atStart => exact ⟨0, rfl, by omega, HR4⟩
        case round =>
          clear HR4
          obtain ⟨j, rfl, hj, HR⟩ := hrel
          by_cases hjl : j < l2.length
          · obtain ⟨ad, rfl, hx⟩ := at_nat (Kd.C_below HC2.out HR.out.below) j hjl
            have HQ := Aside0.mk (mask64 (rd l2 j) 3 (by decide) (by decide))
            obtain ⟨c, hc⟩ : ∃ c, rd l2 (j : Int) = c := ⟨_, rfl⟩
            rw [hc] at hx HQ
            clear hc
            obtain ⟨q, hq⟩ : ∃ q, Go.bits .and .i64 c 3 = q := ⟨_, rfl⟩
            rw [hq] at HQ
            have h4 : q = 0 ∨ q = 1 ∨ q = 2 ∨ q = 3 := by have := HQ.out; omega
            clear HQ
            rcases h4 with rfl | rfl | rfl | rfl
            all_goals (
              go_wp2_with (first
                | (go_at_call 27; refine (rdNum_any w _ g [] true 4611686018427387904 HR.out (fun _ h => by cases h) (by decide)).mono ?_; rw [numR_dead]; rintro e w5 ⟨rfl, hr5, hg5⟩; have HR5 := Aside0.mk hr5; clear hr5 hg5)
                | (go_at_call 29; refine (deadText w _ g 100 HR.out (by decide)).mono ?_; rintro e w5 ⟨rfl, hr5⟩; have HR5 := Aside0.mk hr5; clear hr5)
                | (go_at_call 31; refine (rdId_any w _ g [] true HR.out).mono ?_; rw [idR_dead]; rintro e w5 ⟨cs, rfl, rfl, _, hr5, hg5⟩; have HR5 := Aside0.mk hr5; clear hr5 hg5)
                | (go_at_call 33; refine (rdFour_any w _ g [] true HR.out (fun _ h => by cases h)).mono ?_; rw [fourR_dead]; rintro e w5 ⟨rfl, hr5, hg5⟩; have HR5 := Aside0.mk hr5; clear hr5 hg5)
                | (go_at_call 35; refine (good_any w _ g [] true HR5.out).mono ?_; rintro e w6 ⟨rfl, rfl⟩)
                | (go_at_call 37; refine (done_any w _ g [] true HR5.out).mono ?_; rintro e w6 ⟨rfl, rfl⟩)
                | (go_at_call 36; refine (left_any w _ g [] true HR5.out).mono ?_; rintro e w6 ⟨rfl, rfl⟩))
              go_roundw
              case rel => exact ⟨j + 1, by go_num, by omega, HR5⟩
              case measure => simp [intOf]; omega)
          · obtain rfl : j = l2.length := by omega
            go_wp2_with (first
                | (go_at_call 35; refine (good_any w _ g [] true HR.out).mono ?_; rintro e w6 ⟨rfl, rfl⟩))
            go_ret
            exact ⟨rfl, HR.out.below⟩)
end Go.Proofs.Ytighpoelpedneaa

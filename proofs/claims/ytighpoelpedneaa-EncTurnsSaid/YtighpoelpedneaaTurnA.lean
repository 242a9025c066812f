import Derived.Test.YtighpoelpedneaaSumC
import Derived.Test.YtighpoelpedneaaSame
import Derived.Test.YtighpoelpedneaaTurnN
namespace Go.Proofs.Ytighpoelpedneaa
open Go.RowKit Go.Proofs.YtighpoelpedneaaW.PrintWords
set_option linter.unusedVariables false
set_option linter.unusedSimpArgs false

theorem info5 : (Try.prog.info? 5).map (fun i => (i.zero, i.size, i.bytes)) = some (some (.int .u8 0), 1, 1) := by kernel_rfl
theorem R_empty {α : Type} (d : Kd α) (W : World) (base e : Nat) (hb : base ≤ W.heap.size) : d.R e (W.alloc (.cells #[] e)) base (fun _ => True) (.slice (some ⟨W.heap.size, 0, none⟩) 0 0) [] :=
  ⟨fun _ _ => trivial, [], ⟨by simp, .inr ⟨W.heap.size, 0, #[], rfl, hb, heap_alloc_new W _, Nat.le_refl _, by simp [maxLen], by simp, by simp⟩⟩, Reps.none _ _⟩
theorem R_form {α : Type} {d : Kd α} {e : Nat} {w : World} {base : Nat} {ok : Nat → Prop} {v : Value} {xs : List α} (h : d.R e w base ok v xs) (hs : 0 < d.sz) (hne : 0 < xs.length) :
    ∃ g cap, v = .slice (some ⟨g, 0, none⟩) xs.length cap ∧ base ≤ g ∧ g < w.heap.size := by
  obtain ⟨inner, ho⟩ := Kd.R_own h
  rcases ho.2 with ⟨_, h0⟩ | ⟨g, cap, cur, hv, hg, hh, _⟩
  · have h1 := ho.1
    rw [h0] at h1
    have : 0 < xs.length * d.sz := Nat.mul_pos hne hs
    simp at h1
    omega
  · exact ⟨g, cap, hv, hg, blk_lt hh⟩
theorem i64_mask (x m : Int) (h0 : 0 ≤ m) (h1 : m < 9223372036854775808) : 0 ≤ Go.bits .and .i64 x m ∧ Go.bits .and .i64 x m ≤ m := by
  obtain ⟨n, rfl⟩ := Int.eq_ofNat_of_zero_le h0
  show 0 ≤ IntKind.i64.wrap ((BitVec.ofInt 64 x &&& BitVec.ofInt 64 (n : Int)).toNat : Int) ∧ IntKind.i64.wrap ((BitVec.ofInt 64 x &&& BitVec.ofInt 64 (n : Int)).toNat : Int) ≤ n
  have hn : (BitVec.ofInt 64 (n : Int)).toNat = n := by
    rw [BitVec.ofInt_natCast, BitVec.toNat_ofNat]; exact Nat.mod_eq_of_lt (by omega)
  have hle : (BitVec.ofInt 64 x &&& BitVec.ofInt 64 (n : Int)).toNat ≤ n := by
    rw [BitVec.toNat_and, hn]; exact Nat.and_le_right
  rw [IntKind.wrap_i64]
  omega
set_option maxHeartbeats 2000000 in
theorem EncTurns_walk (A0 : Option Addr) (c0 : Nat) (l0 : List Int) (x1 x2 x3 : Int) (w : World) (hr0 : Kd.C (Kd.int .u8) w A0 l0.length l0) (hc0 : l0.length ≤ c0) (hw0 : ∀ x ∈ l0, (Lit.int .u8 x).wf = true) (hb0 : l0.length * 1 ≤ 140737488351232)
    (hw1 : (Lit.int .i64 x1).wf = true) (hw2 : (Lit.int .i64 x2).wf = true) (hw3 : (Lit.int .u32 x3).wf = true) :
    Calls Try.prog 4 #[.slice A0 l0.length c0, .int .i64 x1, .int .i64 x2, .int .u32 x3] w fun e w' => e = .returned (.bool true) ∧ Below w.heap.size w w' := by
  have HR0 := Aside0.mk hr0
  have HW0 := Aside0.mk hw0
  clear hr0 hw0
  by_cases h0 : l0.length = 0
  · have hb : ((l0.length : Int) == 0) = true := by rw [h0]; rfl
    clear h0
    go_enter Try.func4, Try.ntmps4
    go_wp2_with (first | (go_at_call 10; refine (summing_any _).mono ?_; rintro e w1 ⟨rfl, hb⟩; have HB := Aside0.mk hb; clear hb))
    go_ret
    exact ⟨rfl, HB.out⟩
  by_cases h1 : 1000 < l0.length
  · have hb : ((l0.length : Int) == 0) = false := by simpa using h0
    clear h0
    go_enter Try.func4, Try.ntmps4
    go_wp2_with (first | (go_at_call 10; refine (summing_any _).mono ?_; rintro e w1 ⟨rfl, hb⟩; have HB := Aside0.mk hb; clear hb))
    go_ret
    exact ⟨rfl, HB.out⟩
  have hb : ((l0.length : Int) == 0) = false := by simpa using h0
  have hlen : 0 < l0.length := by omega
  clear h0
  obtain ⟨y1, hy1⟩ : ∃ y, Go.bits .and .i64 x1 1048575 = y := ⟨_, rfl⟩
  obtain ⟨y2, hy2⟩ : ∃ y, Go.bits .and .i64 x2 7 = y := ⟨_, rfl⟩
  obtain ⟨hy1a, hy1b⟩ : 0 ≤ y1 ∧ y1 ≤ 1048575 := hy1 ▸ i64_mask x1 1048575 (by decide) (by decide)
  obtain ⟨hy2a, hy2b⟩ : 0 ≤ y2 ∧ y2 ≤ 7 := hy2 ▸ i64_mask x2 7 (by decide) (by decide)
  obtain ⟨z, hz⟩ : ∃ z, y1 % (l0.length : Int) = z := ⟨_, rfl⟩
  obtain ⟨hza, hzb⟩ : 0 ≤ z ∧ z < l0.length := hz ▸ ⟨Int.emod_nonneg _ (by omega), Int.emod_lt_of_pos _ (by omega)⟩
  obtain ⟨f, hf⟩ : ∃ f : Nat, 8 * z + y2 = (f : Int) := ⟨(8 * z + y2).toNat, by omega⟩
  have hfb : (f : Int) < 8 * l0.length := by omega
  go_enter Try.func4, Try.ntmps4
  go_wp2_with (first
    | (go_at_call 10; refine (summing_any _).mono ?_; rintro e w1 ⟨rfl, hb⟩; have HB := Aside0.mk hb; clear hb)
    | (at_builtin; refine Kd.R_append_row (Value.int .u8) (0 : Int) (w0 := w) w.heap.size rfl (.tmp 23) (.tmp 24) 22 5 (.int .u8 0) 1 rfl Try.underlying22 info5 rfl (by decide) _ [] l0 A0 l0.length c0 (fun _ => True) rfl rfl (fun _ _ => trivial) (R_empty _ _ _ _ HB.out.size) (Kd.C_below HR0.out (below_alloc HB.out _)) (below_alloc HB.out _) (below_alloc HB.out _).size ?c1 ?_; (case c1 => simp; omega); intro v1 w2 ho hb2 hg hat; have HO := Aside0.mk ho; have HB2 := Aside0.mk hb2; clear ho hb2 hg hat))
  rw [List.nil_append] at HO
  obtain ⟨g, cap, rfl, hg, hgl⟩ := R_form HO.out (by decide) hlen
  clear hz hy1 hy2 hf
  have HW := Aside0.mk (turns_law l0 f x3 (fun x hx => wf_u8 (HW0.out x hx)) (by omega))
  go_loopw [11] (fun i wr => ∃ k : Nat, k ≤ 32 ∧ i = .int .i64 k ∧ Aside0 (Kd.R (Kd.int .u8) 5 wr w.heap.size (fun _ => True) (.slice (some ⟨g, 0, none⟩) l0.length cap) (flips l0 f x3 k)) ∧ Aside0 (Below w.heap.size w wr)) (fun i _ => 32 - (intOf i).toNat)
  case atStart => exact ⟨0, by omega, rfl, ⟨HO.out⟩, ⟨HB2.out⟩⟩
  case round =>
    clear HO HB HB2
    obtain ⟨k, hk, rfl, HO, HB⟩ := hrel
    by_cases hk2 : k < 32
    · by_cases hbit : Go.bits .and .u32 (x3 / 2 ^ k) 1 = 1
      · by_cases hin : (f : Int) + k < 8 * l0.length
        · have HY := Aside0.mk (flips_yes (l0 := l0) (f := f) (m := x3) (k := k) hbit (by omega))
          obtain ⟨q, hq, HQ⟩ : ∃ q : Nat, ((f : Int) + k) / 8 = q ∧ Aside0 (q = (f + k) / 8) := ⟨((f + k) / 8 : Nat), by omega, ⟨rfl⟩⟩
          obtain ⟨r, hr, HR⟩ : ∃ r : Nat, ((f : Int) + k) % 8 = r ∧ Aside0 (r = (f + k) % 8) := ⟨((f + k) % 8 : Nat), by omega, ⟨rfl⟩⟩
          have hql : (q : Int) < l0.length := by omega
          have hr7 : (r : Int) < 8 := by omega
          obtain ⟨hx, hfz⟩ := Kd.R_celln (0 : Int) HO.out (q : Int) (by omega) hql
          simp only [Int.toNat_natCast] at hx hfz
          go_wp2
          go_region
          go_wp2
          go_roundw
          case rel => exact ⟨k + 1, by omega, by go_num, ⟨by
            have h := Kd.R_drew (Kd.R_putn HO.out (q : Int) (Go.bits .xor .u8 (rdOf 0 (flips l0 f x3 k) (q : Int)) (2 ^ r % 256)))
            rw [HY.out]
            unfold flipAt
            rw [← HQ.out, ← HR.out]
            exact h⟩, ⟨below_drew1 (below_set HB.out hg)⟩⟩
          case measure => simp [intOf]; omega
        · have HY := Aside0.mk (flips_no (l0 := l0) (f := f) (m := x3) (k := k) (fun h => hin (by omega)))
          go_wp2
          go_roundw
          case rel => exact ⟨k + 1, by omega, by go_num, ⟨by rw [HY.out]; exact HO.out⟩, ⟨HB.out⟩⟩
          case measure => simp [intOf]; omega
      · have HY := Aside0.mk (flips_no (l0 := l0) (f := f) (m := x3) (k := k) (fun h => hbit h.1))
        go_wp2
        go_roundw
        case rel => exact ⟨k + 1, by omega, by go_num, ⟨by rw [HY.out]; exact HO.out⟩, ⟨HB.out⟩⟩
        case measure => simp [intOf]; omega
    · obtain rfl : k = 32 := by omega
      obtain ⟨A1, c1, hv, hc1, hC⟩ := Kd.R_reads HO.out
      have HC := Aside0.mk hC
      have HL := Aside0.mk (flips_length l0 f x3 32)
      clear hC
      generalize flips l0 f x3 32 = l1 at *
      injection hv with e1 e2 e3
      subst e1 e3
      clear e2
      clear hc1
      have k1 := fun W h => encSum_any (some ⟨g, 0, none⟩) cap l1 W h
      have k2 := fun W h h' => sameBytes_any (some ⟨g, 0, none⟩) cap l1 A0 c0 l0 W h h'
      rw [HL.out] at HC k1 k2
      have K1 := Aside0.mk k1
      have K2 := Aside0.mk k2
      clear k1 k2
      go_wp2_with fail
      with_reducible refine (K1.out _ HC.out).mono ?_
      rintro e w' ⟨rfl, rfl⟩
      go_wp2_with fail
      with_reducible refine (encSum_any _ _ l0 _ (Kd.C_below HR0.out HB.out)).mono ?_
      rintro e w' ⟨rfl, rfl⟩
      go_wp2_with fail
      with_reducible refine (K2.out _ HC.out (Kd.C_below HR0.out HB.out)).mono ?_
      rintro e w' ⟨rfl, ⟨nn, rfl⟩⟩
      have HF := Aside0.mk (show ((encSum l1 == encSum l0) == decide (l1 = l0)) = true by
        by_cases h : l1 = l0
        · rw [h]; simp
        · have : ¬ encSum l1 = encSum l0 := fun h2 => h (HW.out.1 h2)
          simp [h, this])
      go_wp2
      go_ret
      exact ⟨ret_bool HF.out, pw_below_drewN HB.out _⟩
end Go.Proofs.Ytighpoelpedneaa

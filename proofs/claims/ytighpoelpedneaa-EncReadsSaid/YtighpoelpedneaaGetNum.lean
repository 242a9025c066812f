import Derived.Test.YtighpoelpedneaaArms
namespace Go.Proofs.Ytighpoelpedneaa
open Go Go.RowKit Go.Proofs.YtighpoelpedneaaW.PrintWords
set_option linter.unusedVariables false
set_option linter.unusedSimpArgs false

theorem inDone_any (A : Option Addr) (n c : Nat) (bad : Bool) (w : World) :
    Calls Try.prog 38 #[.agg #[.slice A n c, .bool bad]] w fun e w' => e = .returned (.bool (!bad && decide (n = 0))) ∧ Below w.heap.size w w' := by
  have HONE := Aside0.mk (show (#[.slice none 0 0, .bool true] : Array Value).all (·.oneCell') = true by simp [Value.oneCell'])
  cases bad with
  | true =>
    go_enter Try.func38, Try.ntmps38
    go_wp2
    go_ret
    exact ⟨rfl, below_alloc (Below.refl _ _) _⟩
  | false =>
    go_enter Try.func38, Try.ntmps38
    go_wp2
    go_ret
    refine ⟨?_, below_alloc (Below.refl _ _) _⟩
    have : ((n : Int) == 0) = decide (n = 0) := by rw [Bool.eq_iff_iff]; simp
    simp [this]

/-- What GetNum gives. -/
def InPost (w0 w : World) (v : Value) (l : List Int) (bad : Bool) (e : Ending) (w' : World) : Prop :=
  ∃ v', e = .returned (.tuple #[v, v']) ∧ InV w0 v' l bad ∧ Below w.heap.size w w'
theorem pow_step (i : Nat) (hi : i ≤ 8) (x b : Int) (hx0 : 0 ≤ x) (hx : x < 128 ^ i) (hb : 0 ≤ b ∧ b < 256) :
    x + b % 128 * 128 ^ i < 128 ^ (i + 1) ∧ (128 : Int) ^ (i + 1) ≤ 9223372036854775808 ∧ (1 : Int) ≤ 128 ^ i ∧ (1 < (128 : Int) ^ i ↔ 0 < i) ∧ 0 ≤ b % 128 * 128 ^ i := by
  obtain ⟨_, h2, h3, h4, h5⟩ := or_step i hi x b hx0 hx hb
  exact ⟨h2, h3, h4, h5, Int.mul_nonneg (by omega) (by omega)⟩

set_option maxHeartbeats 16000000 in
set_option maxRecDepth 20000 in
theorem getNum_any (w0 w : World) (A : Option Addr) (c : Nat) (l : List Int) (bad : Bool) (most : Int) (hC : (Kd.int .u8).C w0 A l.length l) (hc : l.length ≤ c) (hB : Bytes l) (hb : Below w0.heap.size w0 w) (hm : (Lit.int .i64 most).wf = true) :
    Calls Try.prog 26 #[.agg #[.slice A l.length c, .bool bad], .int .i64 most] w (InPost w0 w (.int .i64 (numR most l bad).1) (numR most l bad).2.1 (numR most l bad).2.2) := by
  have HC := Aside0.mk hC
  have HBW := Aside0.mk hb
  have HBY := Aside0.mk hB
  have HCC := Aside0.mk hc
  clear hC hb hB hc
  go_enter Try.func26, Try.ntmps26
  go_wp2
  obtain ⟨W2, hW2⟩ : ∃ W2, (w.alloc (.cells #[.slice A l.length c, .bool bad] 46)).alloc (.cells #[.slice none 0 0, .bool false] 46) = W2 := ⟨_, rfl⟩
  have HZ0 := Aside0.mk (show W2.heap[w.heap.size]? = some (.cells #[.slice A l.length c, .bool bad] 46 (0, 0)) by rw [← hW2]; exact heap_alloc2_old w _ _)
  have HZ5 := Aside0.mk (show W2.heap[w.heap.size + 1]? = some (.cells #[.slice none 0 0, .bool false] 46 (0, 0)) by rw [← hW2]; exact heap_alloc2_new w _ _)
  have HB2 := Aside0.mk (show Below w.heap.size w W2 by rw [← hW2]; exact below_alloc (below_alloc (Below.refl _ _) _) _)
  have HC2 := Aside0.mk (show (Kd.int .u8).C W2 A l.length l from Kd.C_below HC.out (below_step HBW.out HB2.out))
  have hx0 : W2.cell? ⟨w.heap.size, 0, none⟩ = some (.slice A l.length c) := by rw [cell_of_row _ _ _ _ 46 (0, 0) HZ0.out]; rfl
  have hx1 : W2.cell? ⟨w.heap.size, 1, none⟩ = some (.bool bad) := by rw [cell_of_row _ _ _ _ 46 (0, 0) HZ0.out]; rfl
  rw [hW2]
  have HLT := Aside0.mk (show w.heap.size + 1 < W2.heap.size from (Array.getElem?_eq_some_iff.1 HZ5.out).1)
  have hll := C_len HC2.out
  clear hW2
  -- failing
  have HF := Aside0.mk (show (numR most l bad) = (0, [], true) → ∀ (w1 : World), Below W2.heap.size W2 w1 → InPost w0 w (.int .i64 (numR most l bad).1) (numR most l bad).2.1 (numR most l bad).2.2 (.returned (.tuple #[.int .i64 0, .agg #[.slice none 0 0, .bool true]])) (w1.setCells (w.heap.size + 1) 0 [.slice none 0 0, .bool true]) from fun h w1 hb => by
    rw [h]; exact ⟨_, rfl, inv_failed w0, below_setCells (by omega) _ _ _ (below_step HB2.out hb)⟩)
  have HSZ := Aside0.mk (show (Try.prog.info? 46).map (·.size) = some (#[.slice none 0 0, .bool true] : Array Value).size from size46)
  have HONE := Aside0.mk (show (#[.slice none 0 0, .bool true] : Array Value).all (·.oneCell') = true by simp [Value.oneCell'])
  cases bad with
  | true =>
    have HN := Aside0.mk (HF.out rfl)
    go_loopw [6, 7, 8] (fun c d v wr => v = .int .i64 0 ∧ wr = W2) (fun c d v wr => 0)
    case atStart => exact ⟨rfl, rfl⟩
    case round =>
      obtain ⟨rfl, rfl⟩ := hrel
      by_cases h0 : l.length = 0
      · skip
        go_wp2_with (first
          | (go_at_call 40; (with_reducible refine (failed_any _).mono ?_); rintro e w1 ⟨rfl, hb1⟩; have HB3 := Aside0.mk hb1; have HZ6 := Aside0.mk ((hb1.block _ HLT.out).trans HZ5.out); clear hb1)
          | ((with_reducible refine arm_store (ty := 46) (x := .tmp 5) (b := w.heap.size + 1) (c' := #[.slice none 0 0, .bool true]) ?_ ?_ ?_ HSZ.out HONE.out ?_); rfl; rfl; exact there_cs HZ6.out rfl))
        refine ret_in (p := 5) (u := 4) ?_ (w.heap.size + 1) (0, 0) (.int .i64 0) (.slice none 0 0) (.bool true) ?_ ?_ ?_ (setCells_row HZ6.out [.slice none 0 0, .bool true] rfl) (HN.out _ HB3.out) <;> rfl
      · have h1 : (0 : Int) < (l.length : Int) := by omega
        go_wp2_with (first
          | (go_at_call 40; (with_reducible refine (failed_any _).mono ?_); rintro e w1 ⟨rfl, hb1⟩; have HB3 := Aside0.mk hb1; have HZ6 := Aside0.mk ((hb1.block _ HLT.out).trans HZ5.out); clear hb1)
          | ((with_reducible refine arm_store (ty := 46) (x := .tmp 5) (b := w.heap.size + 1) (c' := #[.slice none 0 0, .bool true]) ?_ ?_ ?_ HSZ.out HONE.out ?_); rfl; rfl; exact there_cs HZ6.out rfl))
        refine ret_in (p := 5) (u := 4) ?_ (w.heap.size + 1) (0, 0) (.int .i64 0) (.slice none 0 0) (.bool true) ?_ ?_ ?_ (setCells_row HZ6.out [.slice none 0 0, .bool true] rfl) (HN.out _ HB3.out) <;> rfl
  | false =>
    have hr9 := bounds_i64 hm
    go_loopw [6, 7, 8] (fun nv uv v wr => ∃ (i : Nat) (n : Int), i ≤ 9 ∧ i ≤ l.length ∧ v = .int .i64 i ∧ nv = .int .i64 n ∧ (i ≤ 8 → uv = .int .i64 (128 ^ i)) ∧ 0 ≤ n ∧ n < 128 ^ i ∧ Aside0 (numR most l false = rnum most (9 - i) (128 ^ i) n (l.drop i)) ∧ wr = W2 ∧ uv = .int .i64 (intOf uv)) (fun nv uv v wr => (9 - intOf v).toNat)
    case atStart => exact ⟨0, 0, by omega, by omega, rfl, rfl, fun _ => rfl, by omega, by decide, ⟨rfl⟩, rfl, rfl⟩
    case round =>
      obtain ⟨i, n, hi, hil, rfl, rfl, hu, hn0, hn1, HR, rfl, huv⟩ := hrel
      rw [huv] at hu ⊢
      generalize intOf u7 = p at *
      clear huv
      by_cases hend : i = l.length ∨ i = 9
      · have HN := Aside0.mk (HF.out (by
          rw [HR.out]
          rcases hend with h | h
          · rw [h, List.drop_length]
            cases 9 - l.length <;> rfl
          · rw [h]; rfl))
        have HE := Aside0.mk hend
        by_cases h0 : (i : Int) < (l.length : Int)
        · have h9 : ¬ (i : Int) < 9 := by omega
          clear hu hend
          go_wp2_with (first
            | (go_at_call 40; (with_reducible refine (failed_any _).mono ?_); rintro e w1 ⟨rfl, hb1⟩; have HB3 := Aside0.mk hb1; have HZ6 := Aside0.mk ((hb1.block _ HLT.out).trans HZ5.out); clear hb1)
            | ((with_reducible refine arm_store (ty := 46) (x := .tmp 5) (b := w.heap.size + 1) (c' := #[.slice none 0 0, .bool true]) ?_ ?_ ?_ HSZ.out HONE.out ?_); rfl; rfl; exact there_cs HZ6.out rfl))
          refine ret_in (p := 5) (u := 4) ?_ (w.heap.size + 1) (0, 0) (.int .i64 0) (.slice none 0 0) (.bool true) ?_ ?_ ?_ (setCells_row HZ6.out [.slice none 0 0, .bool true] rfl) (HN.out _ HB3.out) <;> rfl
        · clear hu hend
          go_wp2_with (first
            | (go_at_call 40; (with_reducible refine (failed_any _).mono ?_); rintro e w1 ⟨rfl, hb1⟩; have HB3 := Aside0.mk hb1; have HZ6 := Aside0.mk ((hb1.block _ HLT.out).trans HZ5.out); clear hb1)
            | ((with_reducible refine arm_store (ty := 46) (x := .tmp 5) (b := w.heap.size + 1) (c' := #[.slice none 0 0, .bool true]) ?_ ?_ ?_ HSZ.out HONE.out ?_); rfl; rfl; exact there_cs HZ6.out rfl))
          refine ret_in (p := 5) (u := 4) ?_ (w.heap.size + 1) (0, 0) (.int .i64 0) (.slice none 0 0) (.bool true) ?_ ?_ ?_ (setCells_row HZ6.out [.slice none 0 0, .bool true] rfl) (HN.out _ HB3.out) <;> rfl
      · have hlt : i < l.length := by omega
        have h9 : i < 9 := by omega
        have hu := hu (by omega)
        injection hu with _ hu
        subst hu
        obtain ⟨ad, hA, hx⟩ := at_nat HC2.out i hlt
        subst hA
        obtain ⟨b, hbb⟩ : ∃ b, rd l i = b := ⟨_, rfl⟩
        rw [hbb] at hx
        have hbr : 0 ≤ b ∧ b < 256 := by rw [← hbb]; exact HBY.out _ (by simp [rd, hlt])
        have hdr : l.drop i = b :: l.drop (i + 1) := by rw [List.drop_eq_getElem_cons hlt, ← hbb]; simp [rd, hlt]
        rw [hdr, show 9 - i = (8 - i) + 1 by omega] at HR
        obtain ⟨hp1, hp2, hp3, hp4, hp5⟩ := pow_step i (by omega) n b hn0 hn1 hbr
        have HP := Aside0.mk (show (128 : Int) ^ (i + 1) = 128 ^ i * 128 from by rw [Int.pow_succ])
        have HP8 := Aside0.mk (show i = 8 → (128 : Int) ^ i = 72057594037927936 from fun h => by rw [h]; decide)
        have HNL := Aside0.mk (show i ≤ 7 → (128 : Int) ^ (i + 1) ≤ 72057594037927936 from fun h => by
          have : (128 : Nat) ^ (i + 1) ≤ 128 ^ 8 := Nat.pow_le_pow_right (by decide) (by omega)
          have h8 : (128 : Nat) ^ 8 = 72057594037927936 := by decide
          rw [← pow128]; omega)
        rw [HP.out] at hp1 hp2 HNL
        have HQ1 := Aside0.mk (show i = 0 → (128 : Int) ^ i = 1 from fun h => by rw [h]; rfl)
        generalize (128 : Int) ^ i = q at *
        have hq0i : i = 0 → q = 1 := HQ1.out
        have hdrop := fun (hc : l.length ≤ c) => inv_drop (w0 := w0) HC.out hc (n := i + 1) (by omega)
        obtain ⟨sa, hsa⟩ : ∃ sa, (if c = i + 1 then some ad else (some ad).map (·.add (i + 1))) = sa := ⟨_, rfl⟩
        have HSV1 := Aside0.mk (show (#[.slice sa (l.length - (i + 1)) (c - (i + 1)), .bool false] : Array Value).all (·.oneCell') = true by simp [Value.oneCell'])
        have hq0 : 0 ≤ b % 128 := by omega
        have hq1 : b % 128 < 128 := by omega
        generalize hm2 : b % 128 * q = m at *
        generalize hlow : b % 128 = low at *
        have ham : IntKind.i64.wrap ((i : Int) + 1) = (i : Int) + 1 := by rw [IntKind.wrap_i64]; omega
        by_cases h8 : i = 8
        · have d8 : decide ((i : Int) = 8) = true := decide_eq_true (by omega)
          have d8' : ((i : Int) == 8) = true := by rw [beq_iff_eq]; omega
          have hl8 : ¬ (i : Int) < 8 := by omega
          by_cases h64 : 64 < low
          · have HN := Aside0.mk (HF.out (by
              have hq := HP8.out h8
              rw [HR.out]
              by_cases h127 : 127 < b
              · rw [rnum_more h127, h8]; rfl
              · exact rnum_bad h127 (.inl (by rw [hlow, hm2, ← hm2, hq]; omega))))
            clear h8
            go_wp2_with (first
              | (go_at_call 40; (with_reducible refine (failed_any _).mono ?_); rintro e w1 ⟨rfl, hb1⟩; have HB3 := Aside0.mk hb1; have HZ6 := Aside0.mk ((hb1.block _ HLT.out).trans HZ5.out); clear hb1)
              | ((with_reducible refine arm_store (ty := 46) (x := .tmp 5) (b := w.heap.size + 1) (c' := #[.slice none 0 0, .bool true]) ?_ ?_ ?_ HSZ.out HONE.out ?_); rfl; rfl; exact there_cs HZ6.out rfl))
            refine ret_in (p := 5) (u := 4) ?_ (w.heap.size + 1) (0, 0) (.int .i64 0) (.slice none 0 0) (.bool true) ?_ ?_ ?_ (setCells_row HZ6.out [.slice none 0 0, .bool true] rfl) (HN.out _ HB3.out) <;> rfl
          · have HI8 := Aside0.mk h8
            clear h8
            have hw128 : (7 : Nat) = 7 := rfl
            by_cases hb128 : b < 128
            · by_cases hb0 : b = 0
              · have e0 : (b == 0) = true := by simpa using hb0
                have HB0 := Aside0.mk hb0
                by_cases hi0 : (0 : Int) < (i : Int)
                · skip
                  have HN := Aside0.mk (HF.out (by rw [HR.out]; exact rnum_bad (by omega) (by rw [hlow, hm2]; omega)))
                  clear hb0
                  go_wp2_with (first
                    | (go_at_call 40; (with_reducible refine (failed_any _).mono ?_); rintro e w1 ⟨rfl, hb1⟩; have HB3 := Aside0.mk hb1; have HZ6 := Aside0.mk ((hb1.block _ HLT.out).trans HZ5.out); clear hb1)
                    | ((with_reducible refine arm_store (ty := 46) (x := .tmp 5) (b := w.heap.size + 1) (c' := #[.slice none 0 0, .bool true]) ?_ ?_ ?_ HSZ.out HONE.out ?_); rfl; rfl; exact there_cs HZ6.out rfl))
                  refine ret_in (p := 5) (u := 4) ?_ (w.heap.size + 1) (0, 0) (.int .i64 0) (.slice none 0 0) (.bool true) ?_ ?_ ?_ (setCells_row HZ6.out [.slice none 0 0, .bool true] rfl) (HN.out _ HB3.out) <;> rfl
                · exfalso; have := HI8.out; omega
              · have e0 : (b == 0) = false := by simpa using hb0
                by_cases hx2 : 4611686018427387904 < n + m
                · skip
                  have HN := Aside0.mk (HF.out (by rw [HR.out]; exact rnum_bad (by omega) (by rw [hlow, hm2]; omega)))
                  go_wp2_with (first
                    | (go_at_call 40; (with_reducible refine (failed_any _).mono ?_); rintro e w1 ⟨rfl, hb1⟩; have HB3 := Aside0.mk hb1; have HZ6 := Aside0.mk ((hb1.block _ HLT.out).trans HZ5.out); clear hb1)
                    | ((with_reducible refine arm_store (ty := 46) (x := .tmp 5) (b := w.heap.size + 1) (c' := #[.slice none 0 0, .bool true]) ?_ ?_ ?_ HSZ.out HONE.out ?_); rfl; rfl; exact there_cs HZ6.out rfl))
                  refine ret_in (p := 5) (u := 4) ?_ (w.heap.size + 1) (0, 0) (.int .i64 0) (.slice none 0 0) (.bool true) ?_ ?_ ?_ (setCells_row HZ6.out [.slice none 0 0, .bool true] rfl) (HN.out _ HB3.out) <;> rfl
                · by_cases hy : most < n + m
                  · skip
                    have HN := Aside0.mk (HF.out (by rw [HR.out]; exact rnum_bad (by omega) (by rw [hlow, hm2]; omega)))
                    go_wp2_with (first
                      | (go_at_call 40; (with_reducible refine (failed_any _).mono ?_); rintro e w1 ⟨rfl, hb1⟩; have HB3 := Aside0.mk hb1; have HZ6 := Aside0.mk ((hb1.block _ HLT.out).trans HZ5.out); clear hb1)
                      | ((with_reducible refine arm_store (ty := 46) (x := .tmp 5) (b := w.heap.size + 1) (c' := #[.slice none 0 0, .bool true]) ?_ ?_ ?_ HSZ.out HONE.out ?_); rfl; rfl; exact there_cs HZ6.out rfl))
                    refine ret_in (p := 5) (u := 4) ?_ (w.heap.size + 1) (0, 0) (.int .i64 0) (.slice none 0 0) (.bool true) ?_ ?_ ?_ (setCells_row HZ6.out [.slice none 0 0, .bool true] rfl) (HN.out _ HB3.out) <;> rfl
                  · skip
                    have HG := Aside0.mk (show ∀ w3, Below w.heap.size w w3 → InPost w0 w (.int .i64 (numR most l false).1) (numR most l false).2.1 (numR most l false).2.2 (.returned (.tuple #[.int .i64 (n + m), .agg #[(.slice sa (l.length - (i + 1)) (c - (i + 1))), .bool false]])) w3 from fun w3 hb => by
                      rw [HR.out, rnum_good (by omega) (by rw [hlow, hm2]; omega), hlow, hm2, ← hsa]
                      exact ⟨_, rfl, hdrop HCC.out, hb⟩)
                    go_wp2_with fail
                    have HZ5 := Aside0.mk (show wr.drew.heap[w.heap.size + 1]? = some (.cells #[.slice none 0 0, .bool false] 46 (0, 0)) from HZ5.out)
                    have HZ0 := Aside0.mk (show wr.drew.heap[w.heap.size]? = some (.cells #[.slice (some ad) l.length c, .bool false] 46 (0, 0)) from HZ0.out)
                    refine wp_region_noPanic ?_
                    refine wp_region_held_drew (S := (fun w' => w'.cell? ⟨w.heap.size, 0, none⟩ = some (.slice (some ad) l.length c))) (by kernel_rfl) ?_ (fun hHeld => ?_)
                    · exact hx0
                    refine wpAnyH_take (i := 0) (oi := { dst := some 71, op := Go.Op.move (Go.Operand.tmp 6), type := 2, pos := "ref.go:70", after := #[], guard := none }) (v := ?_) rfl (by kernel_rfl) (by kernel_rfl) (by kernel_rfl) (fun _ _ _ h => h) (Or.inl ⟨by rfl, ?_⟩) hHeld ?_
                    rotate_left
                    · intro w hSw; go_simp; with_reducible rfl
                    try simp only [Act.put, List.setIfInBounds_toArray, List.set_cons_zero, List.set_cons_succ]
                    refine wpAnyH_take (i := 1) (oi := { dst := some 72, op := Go.Op.fieldAddr 46 (Go.Operand.tmp 2) 0, type := 0, pos := "ref.go:70", after := #[], guard := none }) (v := ?_) rfl (by kernel_rfl) (by kernel_rfl) (by kernel_rfl) (fun _ _ _ h => h) (Or.inl ⟨by rfl, ?_⟩) hHeld ?_
                    rotate_left
                    · intro w hSw; go_simp; with_reducible rfl
                    try simp only [Act.put, List.setIfInBounds_toArray, List.set_cons_zero, List.set_cons_succ]
                    refine wpAnyH_take (i := 2) (oi := { dst := some 73, op := Go.Op.load 22 (Go.Operand.tmp 72), type := 22, pos := "ref.go:70", after := #[{ on := 1, ground := Go.Ground.data }], guard := none }) (v := _) rfl (by kernel_rfl) (by kernel_rfl) (by kernel_rfl) (fun _ _ _ h => h) ((show YieldsIf _ _ _ _ (.slice (some ad) l.length c) _ from Or.inl ⟨by rfl, fun w hSw => by go_simp⟩)) hHeld ?_
                    try simp only [Act.put, List.setIfInBounds_toArray, List.set_cons_zero, List.set_cons_succ]
                    refine wpAnyH_take (i := 3) (oi := { dst := some 74, op := Go.Op.move (Go.Operand.tmp 8), type := 3, pos := "ref.go:70", after := #[], guard := none }) (v := ?_) rfl (by kernel_rfl) (by kernel_rfl) (by kernel_rfl) (fun _ _ _ h => h) (Or.inl ⟨by rfl, ?_⟩) hHeld ?_
                    rotate_left
                    · intro w hSw; go_simp; with_reducible rfl
                    try simp only [Act.put, List.setIfInBounds_toArray, List.set_cons_zero, List.set_cons_succ]
                    refine wpAnyH_take (i := 4) (oi := { dst := some 75, op := Go.Op.binOp Go.BinOp.add 3 (Go.Operand.tmp 74) (Go.Operand.const (Go.Value.int Go.IntKind.i64 1)) 3, type := 3, pos := "ref.go:70", after := #[{ on := 3, ground := Go.Ground.data }], guard := none }) (v := _) rfl (by kernel_rfl) (by kernel_rfl) (by kernel_rfl) (fun _ _ _ h => h) ((show YieldsIf _ _ _ _ (.int .i64 ((i + 1 : Nat) : Int)) _ from Or.inl ⟨by rfl, fun w hSw => by go_simp; try (first | exact ham | (rw [ham]; done) | omega | rfl | decide)⟩)) hHeld ?_
                    try simp only [Act.put, List.setIfInBounds_toArray, List.set_cons_zero, List.set_cons_succ]
                    refine wpAnyH_take (i := 5) (oi := { dst := some 76, op := Go.Op.slice 22 (Go.Operand.tmp 73) (some (Go.Operand.tmp 75)) none none, type := 22, pos := "ref.go:70", after := #[{ on := 2, ground := Go.Ground.data }, { on := 4, ground := Go.Ground.data }], guard := none }) (v := _) rfl (by kernel_rfl) (by kernel_rfl) (by kernel_rfl) (fun _ _ _ h => h) ((show YieldsIf _ _ _ _ (.slice sa (l.length - (i + 1)) (c - (i + 1))) _ from hsa ▸ yields_low (by rfl) (.tmp 73) (.tmp 75) rfl (some ad) l.length c (i + 1) .i64 rfl rfl hlt)) hHeld ?_
                    try simp only [Act.put, List.setIfInBounds_toArray, List.set_cons_zero, List.set_cons_succ]
                    refine wpAnyH_take (i := 6) (oi := { dst := some 77, op := Go.Op.build 46 #[(0, Go.Operand.tmp 76), (1, Go.Operand.const (Go.Value.bool false))], type := 46, pos := "ref.go:70", after := #[{ on := 5, ground := Go.Ground.data }, { on := 7, ground := Go.Ground.gcOnly Go.Departure.lateStores }], guard := none }) (v := ?_) rfl (by kernel_rfl) (by kernel_rfl) (by kernel_rfl) (fun _ _ _ h => h) (Or.inl ⟨by rfl, ?_⟩) hHeld ?_
                    rotate_left
                    · intro w hSw; go_simp; with_reducible rfl
                    try simp only [Act.put, List.setIfInBounds_toArray, List.set_cons_zero, List.set_cons_succ]
                    refine wpAnyH_take (i := 7) (oi := { dst := some 4, op := Go.Op.assign (Go.Operand.tmp 71), type := 2, pos := "ref.go:70", after := #[{ on := 0, ground := Go.Ground.data }, { on := 0, ground := Go.Ground.phase }, { on := 1, ground := Go.Ground.textOnly Go.Departure.lateStores }, { on := 2, ground := Go.Ground.textOnly Go.Departure.lateStores }, { on := 3, ground := Go.Ground.textOnly Go.Departure.lateStores }, { on := 4, ground := Go.Ground.textOnly Go.Departure.lateStores }, { on := 5, ground := Go.Ground.textOnly Go.Departure.lateStoresUnsure }, { on := 6, ground := Go.Ground.textOnly Go.Departure.lateStores }], guard := none }) (v := ?_) rfl (by kernel_rfl) (by kernel_rfl) (by kernel_rfl) (fun _ _ _ h => h) (Or.inl ⟨by rfl, ?_⟩) hHeld ?_
                    rotate_left
                    · intro w hSw; go_simp; with_reducible rfl
                    try simp only [Act.put, List.setIfInBounds_toArray, List.set_cons_zero, List.set_cons_succ]
                    refine wpAnyH_ready (rs := [8]) (by kernel_rfl) (by simp) ?_
                    refine AllReadyH.cons (o := { dst := none, op := Go.Op.store 46 (Go.Operand.tmp 5) (Go.Operand.tmp 77), type := 0, pos := "ref.go:70", after := #[{ on := 6, ground := Go.Ground.data }, { on := 7, ground := Go.Ground.chain }, { on := 0, ground := Go.Ground.phase }, { on := 1, ground := Go.Ground.phase }, { on := 2, ground := Go.Ground.phase }, { on := 3, ground := Go.Ground.phase }, { on := 4, ground := Go.Ground.phase }, { on := 5, ground := Go.Ground.phase }, { on := 6, ground := Go.Ground.phase }, { on := 7, ground := Go.Ground.phase }], guard := none }) rfl (fun K hK => ?_) AllReadyH.nil
                    refine step_store (by rfl) 46 (.tmp 5) (.tmp 77) rfl (w.heap.size + 1) #[(.slice sa (l.length - (i + 1)) (c - (i + 1))), .bool false] rfl rfl (there_cs HZ5.out rfl) size46 HSV1.out ?_
                    refine hK.out _ _ (by rw [cell_of_row _ _ _ _ 46 (0, 0) ((setCells_other (by omega)).trans HZ0.out)]; rfl) (fun hHeld => ?_)
                    clear hK K
                    try simp only [Act.put, List.setIfInBounds_toArray, List.set_cons_zero, List.set_cons_succ]
                    refine wpAnyH_done (by kernel_rfl) ?_ _
                    refine NoPanic.normal ?_
                    go_wp2
                    refine ret_in (p := 5) (u := 4) ?_ (w.heap.size + 1) (0, 0) (.int .i64 (n + m)) (.slice sa (l.length - (i + 1)) (c - (i + 1))) (.bool false) ?_ ?_ ?_ (setCells_row HZ5.out [(.slice sa (l.length - (i + 1)) (c - (i + 1))), .bool false] rfl) (HG.out _ (below_setCells (by omega) _ _ _ (below_drew1 HB2.out))) <;> rfl
            · have HNX := Aside0.mk (show numR most l false = rnum most (9 - (i + 1)) (q * 128) (n + m) (l.drop (i + 1)) by
                rw [HR.out, rnum_more (by omega), hlow, hm2, show 9 - (i + 1) = 8 - i by omega])
              go_wp2
              go_roundw
              case rel => exact ⟨i + 1, n + m, by omega, by omega, by go_num, rfl, fun h => by (first | (exfalso; omega) | (rw [HP.out]; done) | (rw [HP.out]; rfl) | rw [HP.out, hw128]), by omega, by rw [HP.out]; exact hp1, ⟨by rw [HP.out]; exact HNX.out⟩, by trivial, rfl⟩
              case measure => simp [intOf]; omega
        · have d8 : decide ((i : Int) = 8) = false := decide_eq_false (by omega)
          have d8' : ((i : Int) == 8) = false := by rw [beq_eq_false_iff_ne]; omega
          have hl8 : (i : Int) < 8 := by omega
          have hq56 := HNL.out (by omega)
          have hw128 : wrap64 (q * 128) = q * 128 := by
            exact IntWalk.wrap64_in _ ⟨by omega, by omega⟩
          by_cases hb128 : b < 128
          · by_cases hb0 : b = 0
            · have e0 : (b == 0) = true := by simpa using hb0
              have HB0 := Aside0.mk hb0
              by_cases hi0 : (0 : Int) < (i : Int)
              · skip
                have HN := Aside0.mk (HF.out (by rw [HR.out]; exact rnum_bad (by omega) (by rw [hlow, hm2]; omega)))
                clear hb0
                go_wp2_with (first
                  | (go_at_call 40; (with_reducible refine (failed_any _).mono ?_); rintro e w1 ⟨rfl, hb1⟩; have HB3 := Aside0.mk hb1; have HZ6 := Aside0.mk ((hb1.block _ HLT.out).trans HZ5.out); clear hb1)
                  | ((with_reducible refine arm_store (ty := 46) (x := .tmp 5) (b := w.heap.size + 1) (c' := #[.slice none 0 0, .bool true]) ?_ ?_ ?_ HSZ.out HONE.out ?_); rfl; rfl; exact there_cs HZ6.out rfl))
                refine ret_in (p := 5) (u := 4) ?_ (w.heap.size + 1) (0, 0) (.int .i64 0) (.slice none 0 0) (.bool true) ?_ ?_ ?_ (setCells_row HZ6.out [.slice none 0 0, .bool true] rfl) (HN.out _ HB3.out) <;> rfl
              · have hz : n + m ≤ 0 := by
                  have : i = 0 := by omega
                  subst this
                  rw [hb0] at hlow
                  rw [← hlow] at hm2
                  have : q = 1 := hq0i rfl
                  omega
                have hx1' : ¬ 4611686018427387904 < n + m := by omega
                obtain rfl : i = 0 := by omega
                have hx00 : wr.cell? ad = some (.int .u8 b) := by have := hx; simpa [Addr.add] using this
                by_cases hy : most < n + m
                · skip
                  have HN := Aside0.mk (HF.out (by rw [HR.out]; exact rnum_bad (by omega) (by rw [hlow, hm2]; omega)))
                  clear hb0 hz hq0i hp4
                  go_wp2_with (first
                    | (go_at_call 40; (with_reducible refine (failed_any _).mono ?_); rintro e w1 ⟨rfl, hb1⟩; have HB3 := Aside0.mk hb1; have HZ6 := Aside0.mk ((hb1.block _ HLT.out).trans HZ5.out); clear hb1)
                    | ((with_reducible refine arm_store (ty := 46) (x := .tmp 5) (b := w.heap.size + 1) (c' := #[.slice none 0 0, .bool true]) ?_ ?_ ?_ HSZ.out HONE.out ?_); rfl; rfl; exact there_cs HZ6.out rfl))
                  refine ret_in (p := 5) (u := 4) ?_ (w.heap.size + 1) (0, 0) (.int .i64 0) (.slice none 0 0) (.bool true) ?_ ?_ ?_ (setCells_row HZ6.out [.slice none 0 0, .bool true] rfl) (HN.out _ HB3.out) <;> rfl
                · skip
                  have HG := Aside0.mk (show ∀ w3, Below w.heap.size w w3 → InPost w0 w (.int .i64 (numR most l false).1) (numR most l false).2.1 (numR most l false).2.2 (.returned (.tuple #[.int .i64 (n + m), .agg #[(.slice sa (l.length - (0 + 1)) (c - (0 + 1))), .bool false]])) w3 from fun w3 hb => by
                    rw [HR.out, rnum_good (by omega) (by rw [hlow, hm2]; omega), hlow, hm2, ← hsa]
                    exact ⟨_, rfl, hdrop HCC.out, hb⟩)
                  clear hb0 hz hq0i hp4
                  go_wp2_with fail
                  have HZ5 := Aside0.mk (show wr.drew.heap[w.heap.size + 1]? = some (.cells #[.slice none 0 0, .bool false] 46 (0, 0)) from HZ5.out)
                  have HZ0 := Aside0.mk (show wr.drew.heap[w.heap.size]? = some (.cells #[.slice (some ad) l.length c, .bool false] 46 (0, 0)) from HZ0.out)
                  refine wp_region_noPanic ?_
                  refine wp_region_held_drew (S := (fun w' => w'.cell? ⟨w.heap.size, 0, none⟩ = some (.slice (some ad) l.length c))) (by kernel_rfl) ?_ (fun hHeld => ?_)
                  · exact hx0
                  refine wpAnyH_take (i := 0) (oi := { dst := some 71, op := Go.Op.move (Go.Operand.tmp 6), type := 2, pos := "ref.go:70", after := #[], guard := none }) (v := ?_) rfl (by kernel_rfl) (by kernel_rfl) (by kernel_rfl) (fun _ _ _ h => h) (Or.inl ⟨by rfl, ?_⟩) hHeld ?_
                  rotate_left
                  · intro w hSw; go_simp; with_reducible rfl
                  try simp only [Act.put, List.setIfInBounds_toArray, List.set_cons_zero, List.set_cons_succ]
                  refine wpAnyH_take (i := 1) (oi := { dst := some 72, op := Go.Op.fieldAddr 46 (Go.Operand.tmp 2) 0, type := 0, pos := "ref.go:70", after := #[], guard := none }) (v := ?_) rfl (by kernel_rfl) (by kernel_rfl) (by kernel_rfl) (fun _ _ _ h => h) (Or.inl ⟨by rfl, ?_⟩) hHeld ?_
                  rotate_left
                  · intro w hSw; go_simp; with_reducible rfl
                  try simp only [Act.put, List.setIfInBounds_toArray, List.set_cons_zero, List.set_cons_succ]
                  refine wpAnyH_take (i := 2) (oi := { dst := some 73, op := Go.Op.load 22 (Go.Operand.tmp 72), type := 22, pos := "ref.go:70", after := #[{ on := 1, ground := Go.Ground.data }], guard := none }) (v := _) rfl (by kernel_rfl) (by kernel_rfl) (by kernel_rfl) (fun _ _ _ h => h) ((show YieldsIf _ _ _ _ (.slice (some ad) l.length c) _ from Or.inl ⟨by rfl, fun w hSw => by go_simp⟩)) hHeld ?_
                  try simp only [Act.put, List.setIfInBounds_toArray, List.set_cons_zero, List.set_cons_succ]
                  refine wpAnyH_take (i := 3) (oi := { dst := some 74, op := Go.Op.move (Go.Operand.tmp 8), type := 3, pos := "ref.go:70", after := #[], guard := none }) (v := ?_) rfl (by kernel_rfl) (by kernel_rfl) (by kernel_rfl) (fun _ _ _ h => h) (Or.inl ⟨by rfl, ?_⟩) hHeld ?_
                  rotate_left
                  · intro w hSw; go_simp; with_reducible rfl
                  try simp only [Act.put, List.setIfInBounds_toArray, List.set_cons_zero, List.set_cons_succ]
                  refine wpAnyH_take (i := 4) (oi := { dst := some 75, op := Go.Op.binOp Go.BinOp.add 3 (Go.Operand.tmp 74) (Go.Operand.const (Go.Value.int Go.IntKind.i64 1)) 3, type := 3, pos := "ref.go:70", after := #[{ on := 3, ground := Go.Ground.data }], guard := none }) (v := _) rfl (by kernel_rfl) (by kernel_rfl) (by kernel_rfl) (fun _ _ _ h => h) ((show YieldsIf _ _ _ _ (.int .i64 ((0 + 1 : Nat) : Int)) _ from Or.inl ⟨by rfl, fun w hSw => by go_simp; try (first | exact ham | (rw [ham]; done) | omega | rfl | decide)⟩)) hHeld ?_
                  try simp only [Act.put, List.setIfInBounds_toArray, List.set_cons_zero, List.set_cons_succ]
                  refine wpAnyH_take (i := 5) (oi := { dst := some 76, op := Go.Op.slice 22 (Go.Operand.tmp 73) (some (Go.Operand.tmp 75)) none none, type := 22, pos := "ref.go:70", after := #[{ on := 2, ground := Go.Ground.data }, { on := 4, ground := Go.Ground.data }], guard := none }) (v := _) rfl (by kernel_rfl) (by kernel_rfl) (by kernel_rfl) (fun _ _ _ h => h) ((show YieldsIf _ _ _ _ (.slice sa (l.length - (0 + 1)) (c - (0 + 1))) _ from hsa ▸ yields_low (by rfl) (.tmp 73) (.tmp 75) rfl (some ad) l.length c (0 + 1) .i64 rfl rfl hlt)) hHeld ?_
                  try simp only [Act.put, List.setIfInBounds_toArray, List.set_cons_zero, List.set_cons_succ]
                  refine wpAnyH_take (i := 6) (oi := { dst := some 77, op := Go.Op.build 46 #[(0, Go.Operand.tmp 76), (1, Go.Operand.const (Go.Value.bool false))], type := 46, pos := "ref.go:70", after := #[{ on := 5, ground := Go.Ground.data }, { on := 7, ground := Go.Ground.gcOnly Go.Departure.lateStores }], guard := none }) (v := ?_) rfl (by kernel_rfl) (by kernel_rfl) (by kernel_rfl) (fun _ _ _ h => h) (Or.inl ⟨by rfl, ?_⟩) hHeld ?_
                  rotate_left
                  · intro w hSw; go_simp; with_reducible rfl
                  try simp only [Act.put, List.setIfInBounds_toArray, List.set_cons_zero, List.set_cons_succ]
                  refine wpAnyH_take (i := 7) (oi := { dst := some 4, op := Go.Op.assign (Go.Operand.tmp 71), type := 2, pos := "ref.go:70", after := #[{ on := 0, ground := Go.Ground.data }, { on := 0, ground := Go.Ground.phase }, { on := 1, ground := Go.Ground.textOnly Go.Departure.lateStores }, { on := 2, ground := Go.Ground.textOnly Go.Departure.lateStores }, { on := 3, ground := Go.Ground.textOnly Go.Departure.lateStores }, { on := 4, ground := Go.Ground.textOnly Go.Departure.lateStores }, { on := 5, ground := Go.Ground.textOnly Go.Departure.lateStoresUnsure }, { on := 6, ground := Go.Ground.textOnly Go.Departure.lateStores }], guard := none }) (v := ?_) rfl (by kernel_rfl) (by kernel_rfl) (by kernel_rfl) (fun _ _ _ h => h) (Or.inl ⟨by rfl, ?_⟩) hHeld ?_
                  rotate_left
                  · intro w hSw; go_simp; with_reducible rfl
                  try simp only [Act.put, List.setIfInBounds_toArray, List.set_cons_zero, List.set_cons_succ]
                  refine wpAnyH_ready (rs := [8]) (by kernel_rfl) (by simp) ?_
                  refine AllReadyH.cons (o := { dst := none, op := Go.Op.store 46 (Go.Operand.tmp 5) (Go.Operand.tmp 77), type := 0, pos := "ref.go:70", after := #[{ on := 6, ground := Go.Ground.data }, { on := 7, ground := Go.Ground.chain }, { on := 0, ground := Go.Ground.phase }, { on := 1, ground := Go.Ground.phase }, { on := 2, ground := Go.Ground.phase }, { on := 3, ground := Go.Ground.phase }, { on := 4, ground := Go.Ground.phase }, { on := 5, ground := Go.Ground.phase }, { on := 6, ground := Go.Ground.phase }, { on := 7, ground := Go.Ground.phase }], guard := none }) rfl (fun K hK => ?_) AllReadyH.nil
                  refine step_store (by rfl) 46 (.tmp 5) (.tmp 77) rfl (w.heap.size + 1) #[(.slice sa (l.length - (0 + 1)) (c - (0 + 1))), .bool false] rfl rfl (there_cs HZ5.out rfl) size46 HSV1.out ?_
                  refine hK.out _ _ (by rw [cell_of_row _ _ _ _ 46 (0, 0) ((setCells_other (by omega)).trans HZ0.out)]; rfl) (fun hHeld => ?_)
                  clear hK K
                  try simp only [Act.put, List.setIfInBounds_toArray, List.set_cons_zero, List.set_cons_succ]
                  refine wpAnyH_done (by kernel_rfl) ?_ _
                  refine NoPanic.normal ?_
                  go_wp2
                  refine ret_in (p := 5) (u := 4) ?_ (w.heap.size + 1) (0, 0) (.int .i64 (n + m)) (.slice sa (l.length - (0 + 1)) (c - (0 + 1))) (.bool false) ?_ ?_ ?_ (setCells_row HZ5.out [(.slice sa (l.length - (0 + 1)) (c - (0 + 1))), .bool false] rfl) (HG.out _ (below_setCells (by omega) _ _ _ (below_drew1 HB2.out))) <;> rfl
            · have e0 : (b == 0) = false := by simpa using hb0
              by_cases hx2 : 4611686018427387904 < n + m
              · exfalso; omega
              · by_cases hy : most < n + m
                · skip
                  have HN := Aside0.mk (HF.out (by rw [HR.out]; exact rnum_bad (by omega) (by rw [hlow, hm2]; omega)))
                  go_wp2_with (first
                    | (go_at_call 40; (with_reducible refine (failed_any _).mono ?_); rintro e w1 ⟨rfl, hb1⟩; have HB3 := Aside0.mk hb1; have HZ6 := Aside0.mk ((hb1.block _ HLT.out).trans HZ5.out); clear hb1)
                    | ((with_reducible refine arm_store (ty := 46) (x := .tmp 5) (b := w.heap.size + 1) (c' := #[.slice none 0 0, .bool true]) ?_ ?_ ?_ HSZ.out HONE.out ?_); rfl; rfl; exact there_cs HZ6.out rfl))
                  refine ret_in (p := 5) (u := 4) ?_ (w.heap.size + 1) (0, 0) (.int .i64 0) (.slice none 0 0) (.bool true) ?_ ?_ ?_ (setCells_row HZ6.out [.slice none 0 0, .bool true] rfl) (HN.out _ HB3.out) <;> rfl
                · skip
                  have HG := Aside0.mk (show ∀ w3, Below w.heap.size w w3 → InPost w0 w (.int .i64 (numR most l false).1) (numR most l false).2.1 (numR most l false).2.2 (.returned (.tuple #[.int .i64 (n + m), .agg #[(.slice sa (l.length - (i + 1)) (c - (i + 1))), .bool false]])) w3 from fun w3 hb => by
                    rw [HR.out, rnum_good (by omega) (by rw [hlow, hm2]; omega), hlow, hm2, ← hsa]
                    exact ⟨_, rfl, hdrop HCC.out, hb⟩)
                  go_wp2_with fail
                  have HZ5 := Aside0.mk (show wr.drew.heap[w.heap.size + 1]? = some (.cells #[.slice none 0 0, .bool false] 46 (0, 0)) from HZ5.out)
                  have HZ0 := Aside0.mk (show wr.drew.heap[w.heap.size]? = some (.cells #[.slice (some ad) l.length c, .bool false] 46 (0, 0)) from HZ0.out)
                  refine wp_region_noPanic ?_
                  refine wp_region_held_drew (S := (fun w' => w'.cell? ⟨w.heap.size, 0, none⟩ = some (.slice (some ad) l.length c))) (by kernel_rfl) ?_ (fun hHeld => ?_)
                  · exact hx0
                  refine wpAnyH_take (i := 0) (oi := { dst := some 71, op := Go.Op.move (Go.Operand.tmp 6), type := 2, pos := "ref.go:70", after := #[], guard := none }) (v := ?_) rfl (by kernel_rfl) (by kernel_rfl) (by kernel_rfl) (fun _ _ _ h => h) (Or.inl ⟨by rfl, ?_⟩) hHeld ?_
                  rotate_left
                  · intro w hSw; go_simp; with_reducible rfl
                  try simp only [Act.put, List.setIfInBounds_toArray, List.set_cons_zero, List.set_cons_succ]
                  refine wpAnyH_take (i := 1) (oi := { dst := some 72, op := Go.Op.fieldAddr 46 (Go.Operand.tmp 2) 0, type := 0, pos := "ref.go:70", after := #[], guard := none }) (v := ?_) rfl (by kernel_rfl) (by kernel_rfl) (by kernel_rfl) (fun _ _ _ h => h) (Or.inl ⟨by rfl, ?_⟩) hHeld ?_
                  rotate_left
                  · intro w hSw; go_simp; with_reducible rfl
                  try simp only [Act.put, List.setIfInBounds_toArray, List.set_cons_zero, List.set_cons_succ]
                  refine wpAnyH_take (i := 2) (oi := { dst := some 73, op := Go.Op.load 22 (Go.Operand.tmp 72), type := 22, pos := "ref.go:70", after := #[{ on := 1, ground := Go.Ground.data }], guard := none }) (v := _) rfl (by kernel_rfl) (by kernel_rfl) (by kernel_rfl) (fun _ _ _ h => h) ((show YieldsIf _ _ _ _ (.slice (some ad) l.length c) _ from Or.inl ⟨by rfl, fun w hSw => by go_simp⟩)) hHeld ?_
                  try simp only [Act.put, List.setIfInBounds_toArray, List.set_cons_zero, List.set_cons_succ]
                  refine wpAnyH_take (i := 3) (oi := { dst := some 74, op := Go.Op.move (Go.Operand.tmp 8), type := 3, pos := "ref.go:70", after := #[], guard := none }) (v := ?_) rfl (by kernel_rfl) (by kernel_rfl) (by kernel_rfl) (fun _ _ _ h => h) (Or.inl ⟨by rfl, ?_⟩) hHeld ?_
                  rotate_left
                  · intro w hSw; go_simp; with_reducible rfl
                  try simp only [Act.put, List.setIfInBounds_toArray, List.set_cons_zero, List.set_cons_succ]
                  refine wpAnyH_take (i := 4) (oi := { dst := some 75, op := Go.Op.binOp Go.BinOp.add 3 (Go.Operand.tmp 74) (Go.Operand.const (Go.Value.int Go.IntKind.i64 1)) 3, type := 3, pos := "ref.go:70", after := #[{ on := 3, ground := Go.Ground.data }], guard := none }) (v := _) rfl (by kernel_rfl) (by kernel_rfl) (by kernel_rfl) (fun _ _ _ h => h) ((show YieldsIf _ _ _ _ (.int .i64 ((i + 1 : Nat) : Int)) _ from Or.inl ⟨by rfl, fun w hSw => by go_simp; try (first | exact ham | (rw [ham]; done) | omega | rfl | decide)⟩)) hHeld ?_
                  try simp only [Act.put, List.setIfInBounds_toArray, List.set_cons_zero, List.set_cons_succ]
                  refine wpAnyH_take (i := 5) (oi := { dst := some 76, op := Go.Op.slice 22 (Go.Operand.tmp 73) (some (Go.Operand.tmp 75)) none none, type := 22, pos := "ref.go:70", after := #[{ on := 2, ground := Go.Ground.data }, { on := 4, ground := Go.Ground.data }], guard := none }) (v := _) rfl (by kernel_rfl) (by kernel_rfl) (by kernel_rfl) (fun _ _ _ h => h) ((show YieldsIf _ _ _ _ (.slice sa (l.length - (i + 1)) (c - (i + 1))) _ from hsa ▸ yields_low (by rfl) (.tmp 73) (.tmp 75) rfl (some ad) l.length c (i + 1) .i64 rfl rfl hlt)) hHeld ?_
                  try simp only [Act.put, List.setIfInBounds_toArray, List.set_cons_zero, List.set_cons_succ]
                  refine wpAnyH_take (i := 6) (oi := { dst := some 77, op := Go.Op.build 46 #[(0, Go.Operand.tmp 76), (1, Go.Operand.const (Go.Value.bool false))], type := 46, pos := "ref.go:70", after := #[{ on := 5, ground := Go.Ground.data }, { on := 7, ground := Go.Ground.gcOnly Go.Departure.lateStores }], guard := none }) (v := ?_) rfl (by kernel_rfl) (by kernel_rfl) (by kernel_rfl) (fun _ _ _ h => h) (Or.inl ⟨by rfl, ?_⟩) hHeld ?_
                  rotate_left
                  · intro w hSw; go_simp; with_reducible rfl
                  try simp only [Act.put, List.setIfInBounds_toArray, List.set_cons_zero, List.set_cons_succ]
                  refine wpAnyH_take (i := 7) (oi := { dst := some 4, op := Go.Op.assign (Go.Operand.tmp 71), type := 2, pos := "ref.go:70", after := #[{ on := 0, ground := Go.Ground.data }, { on := 0, ground := Go.Ground.phase }, { on := 1, ground := Go.Ground.textOnly Go.Departure.lateStores }, { on := 2, ground := Go.Ground.textOnly Go.Departure.lateStores }, { on := 3, ground := Go.Ground.textOnly Go.Departure.lateStores }, { on := 4, ground := Go.Ground.textOnly Go.Departure.lateStores }, { on := 5, ground := Go.Ground.textOnly Go.Departure.lateStoresUnsure }, { on := 6, ground := Go.Ground.textOnly Go.Departure.lateStores }], guard := none }) (v := ?_) rfl (by kernel_rfl) (by kernel_rfl) (by kernel_rfl) (fun _ _ _ h => h) (Or.inl ⟨by rfl, ?_⟩) hHeld ?_
                  rotate_left
                  · intro w hSw; go_simp; with_reducible rfl
                  try simp only [Act.put, List.setIfInBounds_toArray, List.set_cons_zero, List.set_cons_succ]
                  refine wpAnyH_ready (rs := [8]) (by kernel_rfl) (by simp) ?_
                  refine AllReadyH.cons (o := { dst := none, op := Go.Op.store 46 (Go.Operand.tmp 5) (Go.Operand.tmp 77), type := 0, pos := "ref.go:70", after := #[{ on := 6, ground := Go.Ground.data }, { on := 7, ground := Go.Ground.chain }, { on := 0, ground := Go.Ground.phase }, { on := 1, ground := Go.Ground.phase }, { on := 2, ground := Go.Ground.phase }, { on := 3, ground := Go.Ground.phase }, { on := 4, ground := Go.Ground.phase }, { on := 5, ground := Go.Ground.phase }, { on := 6, ground := Go.Ground.phase }, { on := 7, ground := Go.Ground.phase }], guard := none }) rfl (fun K hK => ?_) AllReadyH.nil
                  refine step_store (by rfl) 46 (.tmp 5) (.tmp 77) rfl (w.heap.size + 1) #[(.slice sa (l.length - (i + 1)) (c - (i + 1))), .bool false] rfl rfl (there_cs HZ5.out rfl) size46 HSV1.out ?_
                  refine hK.out _ _ (by rw [cell_of_row _ _ _ _ 46 (0, 0) ((setCells_other (by omega)).trans HZ0.out)]; rfl) (fun hHeld => ?_)
                  clear hK K
                  try simp only [Act.put, List.setIfInBounds_toArray, List.set_cons_zero, List.set_cons_succ]
                  refine wpAnyH_done (by kernel_rfl) ?_ _
                  refine NoPanic.normal ?_
                  go_wp2
                  refine ret_in (p := 5) (u := 4) ?_ (w.heap.size + 1) (0, 0) (.int .i64 (n + m)) (.slice sa (l.length - (i + 1)) (c - (i + 1))) (.bool false) ?_ ?_ ?_ (setCells_row HZ5.out [(.slice sa (l.length - (i + 1)) (c - (i + 1))), .bool false] rfl) (HG.out _ (below_setCells (by omega) _ _ _ (below_drew1 HB2.out))) <;> rfl
          · have HNX := Aside0.mk (show numR most l false = rnum most (9 - (i + 1)) (q * 128) (n + m) (l.drop (i + 1)) by
              rw [HR.out, rnum_more (by omega), hlow, hm2, show 9 - (i + 1) = 8 - i by omega])
            go_wp2
            go_roundw
            case rel => exact ⟨i + 1, n + m, by omega, by omega, by go_num, rfl, fun h => by (first | (exfalso; omega) | (rw [HP.out]; done) | (rw [HP.out]; rfl) | rw [HP.out, hw128]), by omega, by rw [HP.out]; exact hp1, ⟨by rw [HP.out]; exact HNX.out⟩, by trivial, rfl⟩
            case measure => simp [intOf]; omega
end Go.Proofs.Ytighpoelpedneaa

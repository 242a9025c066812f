import Derived.Test.YtighpoelpedneaaGetTxt
namespace Go.Proofs.Ytighpoelpedneaa
open Go Go.RowKit Go.Proofs.YtighpoelpedneaaW.PrintWords
set_option linter.unusedVariables false
set_option linter.unusedSimpArgs false

set_option maxHeartbeats 8000000 in
set_option maxRecDepth 20000 in
theorem getFour_any (w0 w : World) (A : Option Addr) (c : Nat) (l : List Int) (bad : Bool) (hC : (Kd.int .u8).C w0 A l.length l) (hc : l.length ≤ c) (hB : Bytes l) (hb : Below w0.heap.size w0 w) :
    Calls Try.prog 32 #[.agg #[.slice A l.length c, .bool bad]] w (InPost w0 w (.int .u32 (fourR l bad).1) (fourR l bad).2.1 (fourR l bad).2.2) := by
  have HBW := Aside0.mk hb
  have HC := Aside0.mk hC
  have HCC := Aside0.mk hc
  have HBY := Aside0.mk hB
  have HW2 := Aside0.mk (below_alloc (below_alloc (Below.refl w.heap.size w) (.cells #[.slice A l.length c, .bool bad] 46)) (.cells #[.slice none 0 0, .bool false] 46))
  have HZ := Aside0.mk (heap_alloc2_new w (.cells #[.slice A l.length c, .bool bad] 46) (.cells #[.slice none 0 0, .bool false] 46))
  have HZ0 := Aside0.mk (heap_alloc2_old w (.cells #[.slice A l.length c, .bool bad] 46) (.cells #[.slice none 0 0, .bool false] 46))
  have HBB := Aside0.mk (below_step HBW.out HW2.out)
  have HLT := Aside0.mk (show w.heap.size + 1 < ((w.alloc (.cells #[.slice A l.length c, .bool bad] 46)).alloc (.cells #[.slice none 0 0, .bool false] 46)).heap.size by simp)
  have HSZ := Aside0.mk (show (Try.prog.info? 46).map (·.size) = some (#[.slice none 0 0, .bool true] : Array Value).size from size46)
  have HONE := Aside0.mk (show (#[.slice none 0 0, .bool true] : Array Value).all (·.oneCell') = true by simp [Value.oneCell'])
  clear hC hB hb hc
  by_cases hbad : bad = true ∨ l.length < 4
  · have HT := Aside0.mk (show fourR l bad = (0, [], true) from if_pos hbad)
    cases bad with
    | true =>
      clear hbad
      go_enter Try.func32, Try.ntmps32
      go_wp2_with (first
        | (go_at_call 40; (with_reducible refine (failed_any _).mono ?_); rintro e w2 ⟨rfl, hb2⟩; have HB2 := Aside0.mk hb2; have HZ6 := Aside0.mk ((hb2.block _ HLT.out).trans HZ.out); clear hb2)
        | ((with_reducible refine arm_store (ty := 46) (x := .tmp 3) (b := w.heap.size + 1) (c' := #[.slice none 0 0, .bool true]) ?_ ?_ ?_ HSZ.out HONE.out ?_); rfl; rfl; exact there_cs HZ6.out rfl))
      refine ret_in (p := 3) (u := 2) ?_ (w.heap.size + 1) (0, 0) (.int .u32 0) (.slice none 0 0) (.bool true) ?_ ?_ ?_ (setCells_row HZ6.out [.slice none 0 0, .bool true] rfl) ?_
      all_goals first | rfl | skip
      rw [HT.out]
      exact ⟨_, rfl, inv_failed w0, below_setCells (by omega) _ _ _ (below_step HW2.out HB2.out)⟩
    | false =>
      have hlt : (l.length : Int) < 4 := by rcases hbad with h | h; cases h; omega
      clear hbad
      go_enter Try.func32, Try.ntmps32
      go_wp2_with (first
        | (go_at_call 40; (with_reducible refine (failed_any _).mono ?_); rintro e w2 ⟨rfl, hb2⟩; have HB2 := Aside0.mk hb2; have HZ6 := Aside0.mk ((hb2.block _ HLT.out).trans HZ.out); clear hb2)
        | ((with_reducible refine arm_store (ty := 46) (x := .tmp 3) (b := w.heap.size + 1) (c' := #[.slice none 0 0, .bool true]) ?_ ?_ ?_ HSZ.out HONE.out ?_); rfl; rfl; exact there_cs HZ6.out rfl))
      refine ret_in (p := 3) (u := 2) ?_ (w.heap.size + 1) (0, 0) (.int .u32 0) (.slice none 0 0) (.bool true) ?_ ?_ ?_ (setCells_row HZ6.out [.slice none 0 0, .bool true] rfl) ?_
      all_goals first | rfl | skip
      rw [HT.out]
      exact ⟨_, rfl, inv_failed w0, below_setCells (by omega) _ _ _ (below_step HW2.out HB2.out)⟩
  · obtain rfl : bad = false := by cases bad with | false => rfl | true => exact absurd (.inl rfl) hbad
    have hl4 : 4 ≤ l.length := by omega
    have hl4' : ¬ (l.length : Int) < 4 := by omega
    have HT := Aside0.mk (show fourR l false = (rd l 0 + 256 * rd l 1 + 65536 * rd l 2 + 16777216 * rd l 3, l.drop 4, false) from if_neg hbad)
    clear hbad
    obtain ⟨ad, hA, _⟩ := at_nat HC.out 0 (by omega)
    subst hA
    have key := fun (W : World) (h : Below w0.heap.size w0 W) (k : Nat) (hk : k < 4) => (show W.cell? (ad.add k) = some (.int .u8 (rd l k)) by
      obtain ⟨ad', e, hx⟩ := at_nat (Kd.C_below HC.out h) k (by omega)
      injection e with e
      subst e
      exact hx)
    have hcell0 := fun (W : World) (h : Below w0.heap.size w0 W) => (show W.cell? ad = some (.int .u8 (rd l 0)) by have := key W h 0 (by omega); simpa [Addr.add] using this)
    have hcell1 := fun (W : World) (h : Below w0.heap.size w0 W) => (show W.cell? ⟨ad.block, ad.off + 1, none⟩ = some (.int .u8 (rd l 1)) by have := key W h 1 (by omega); simpa [Addr.add] using this)
    have hcell2 := fun (W : World) (h : Below w0.heap.size w0 W) => (show W.cell? ⟨ad.block, ad.off + 2, none⟩ = some (.int .u8 (rd l 2)) by have := key W h 2 (by omega); simpa [Addr.add] using this)
    have hcell3 := fun (W : World) (h : Below w0.heap.size w0 W) => (show W.cell? ⟨ad.block, ad.off + 3, none⟩ = some (.int .u8 (rd l 3)) by have := key W h 3 (by omega); simpa [Addr.add] using this)
    have r := fun (k : Nat) (hk : k < 4) => HBY.out (rd l k) (by have : k < l.length := by omega
                                                                 simp [rd, this])
    have r0 := r 0 (by omega); have r1 := r 1 (by omega); have r2 := r 2 (by omega); have r3 := r 3 (by omega)
    clear r key
    obtain ⟨b0, e0⟩ : ∃ b, rd l 0 = b := ⟨_, rfl⟩
    obtain ⟨b1, e1⟩ : ∃ b, rd l 1 = b := ⟨_, rfl⟩
    obtain ⟨b2, e2⟩ : ∃ b, rd l 2 = b := ⟨_, rfl⟩
    obtain ⟨b3, e3⟩ : ∃ b, rd l 3 = b := ⟨_, rfl⟩
    rw [e0] at hcell0; rw [e1] at hcell1; rw [e2] at hcell2; rw [e3] at hcell3
    have r0 : 0 ≤ b0 ∧ b0 < 256 := by rw [← e0]; exact r0
    have r1 : 0 ≤ b1 ∧ b1 < 256 := by rw [← e1]; exact r1
    have r2 : 0 ≤ b2 ∧ b2 < 256 := by rw [← e2]; exact r2
    have r3 : 0 ≤ b3 ∧ b3 < 256 := by rw [← e3]; exact r3
    rw [e0, e1, e2, e3] at HT
    clear e0 e1 e2 e3
    have hc0 : IntKind.u32.wrap b0 = b0 := by rw [IntKind.wrap_u32]; omega
    have hc1 : IntKind.u32.wrap b1 = b1 := by rw [IntKind.wrap_u32]; omega
    have hc2 : IntKind.u32.wrap b2 = b2 := by rw [IntKind.wrap_u32]; omega
    have hc3 : IntKind.u32.wrap b3 = b3 := by rw [IntKind.wrap_u32]; omega
    have hwA : IntKind.u32.wrap (256 * b1) = 256 * b1 := by rw [IntKind.wrap_u32]; omega
    have hwB : IntKind.u32.wrap (b0 + 256 * b1) = b0 + 256 * b1 := by rw [IntKind.wrap_u32]; omega
    have hwC : IntKind.u32.wrap (65536 * b2) = 65536 * b2 := by rw [IntKind.wrap_u32]; omega
    have hwD : IntKind.u32.wrap (b0 + 256 * b1 + 65536 * b2) = b0 + 256 * b1 + 65536 * b2 := by rw [IntKind.wrap_u32]; omega
    have hwE : IntKind.u32.wrap (16777216 * b3) = 16777216 * b3 := by rw [IntKind.wrap_u32]; omega
    have hwF : IntKind.u32.wrap (b0 + 256 * b1 + 65536 * b2 + 16777216 * b3) = b0 + 256 * b1 + 65536 * b2 + 16777216 * b3 := by rw [IntKind.wrap_u32]; omega
    obtain ⟨sa, hsa⟩ : ∃ sa, (if c = 4 then some ad else (some ad).map (·.add 4)) = sa := ⟨_, rfl⟩
    have HSV1 := Aside0.mk (show (#[.slice sa (l.length - 4) (c - 4), .bool false] : Array Value).all (·.oneCell') = true by simp [Value.oneCell'])
    go_enter Try.func32, Try.ntmps32
    go_wp2_with fail
    generalize hW2 : (w.alloc (.cells #[.slice (some ad) l.length c, .bool false] 46)).alloc (.cells #[.slice none 0 0, .bool false] 46) = W2 at *
    clear hW2
    have HBx := Aside0.mk (show Below w0.heap.size w0 W2.drew from below_drew1 HBB.out)
    have HZ7 := Aside0.mk (show W2.drew.heap[w.heap.size + 1]? = some (.cells #[.slice none 0 0, .bool false] 46 (0, 0)) from HZ.out)
    have HX0 := Aside0.mk (show W2.drew.cell? ⟨w.heap.size, 0, none⟩ = some (.slice (some ad) l.length c) from cell_of_row W2.drew w.heap.size 0 #[.slice (some ad) l.length c, .bool false] 46 (0, 0) HZ0.out)
    have HBy := Aside0.mk (show Below w0.heap.size w0 (W2.drew.setCells (w.heap.size + 1) 0 [.slice sa (l.length - 4) (c - 4), .bool false]) from below_setCells (by have := HBW.out.size; omega) _ _ _ HBx.out)
    have HX1 := Aside0.mk (show (W2.drew.setCells (w.heap.size + 1) 0 [.slice sa (l.length - 4) (c - 4), .bool false]).cell? ⟨w.heap.size, 0, none⟩ = some (.slice (some ad) l.length c) from cell_of_row _ w.heap.size 0 #[.slice (some ad) l.length c, .bool false] 46 (0, 0) ((setCells_other (by omega)).trans HZ0.out))
    have HBz := Aside0.mk (show Below w.heap.size w (W2.drew.setCells (w.heap.size + 1) 0 [.slice sa (l.length - 4) (c - 4), .bool false]) from below_setCells (by omega) _ _ _ (below_drew1 HW2.out))
    refine wp_region_noPanic ?_
    refine wp_region_held_drew (S := (fun W => W.cell? ⟨w.heap.size, 0, none⟩ = some (.slice (some ad) l.length c) ∧ Below w0.heap.size w0 W)) (by kernel_rfl) ?_ (fun hHeld => ?_)
    · exact ⟨HX0.out, HBx.out⟩
    refine wpAnyH_take (i := 0) (oi := { dst := some 13, op := Go.Op.fieldAddr 46 (Go.Operand.tmp 1) 0, type := 0, pos := "ref.go:105", after := #[], guard := none }) (v := ?_) rfl (by kernel_rfl) (by kernel_rfl) (by kernel_rfl) (fun _ _ _ h => h) (Or.inl ⟨by rfl, ?_⟩) hHeld ?_
    rotate_left
    · intro w hSw; go_simp; with_reducible rfl
    try simp only [Act.put, List.setIfInBounds_toArray, List.set_cons_zero, List.set_cons_succ]
    refine wpAnyH_take (i := 1) (oi := { dst := some 14, op := Go.Op.load 22 (Go.Operand.tmp 13), type := 22, pos := "ref.go:105", after := #[{ on := 0, ground := Go.Ground.data }], guard := none }) (v := _) rfl (by kernel_rfl) (by kernel_rfl) (by kernel_rfl) (fun _ _ _ h => h) ((show YieldsIf _ _ _ _ (.slice (some ad) l.length c) _ from Or.inl ⟨by rfl, fun w hSw => by have hc := hSw.1; go_simp⟩)) hHeld ?_
    try simp only [Act.put, List.setIfInBounds_toArray, List.set_cons_zero, List.set_cons_succ]
    refine wpAnyH_take (i := 2) (oi := { dst := some 15, op := Go.Op.indexAddr 22 (Go.Operand.tmp 14) (Go.Operand.const (Go.Value.int Go.IntKind.i64 0)), type := 0, pos := "ref.go:105", after := #[{ on := 1, ground := Go.Ground.data }], guard := none }) (v := _) rfl (by kernel_rfl) (by kernel_rfl) (by kernel_rfl) (fun _ _ _ h => h) ((show YieldsIf _ _ _ _ (.pointer (some ad)) _ from Or.inl ⟨by rfl, fun w hSw => by go_simp; intro h; exfalso; (first | omega | (subst h; simp at hl4))⟩)) hHeld ?_
    try simp only [Act.put, List.setIfInBounds_toArray, List.set_cons_zero, List.set_cons_succ]
    refine wpAnyH_take (i := 3) (oi := { dst := some 16, op := Go.Op.load 5 (Go.Operand.tmp 15), type := 5, pos := "ref.go:105", after := #[{ on := 2, ground := Go.Ground.data }], guard := none }) (v := _) rfl (by kernel_rfl) (by kernel_rfl) (by kernel_rfl) (fun _ _ _ h => h) ((show YieldsIf _ _ _ _ (.int .u8 b0) _ from Or.inl ⟨by rfl, fun w hSw => by have hc := hcell0 w hSw.2; go_simp⟩)) hHeld ?_
    try simp only [Act.put, List.setIfInBounds_toArray, List.set_cons_zero, List.set_cons_succ]
    refine wpAnyH_take (i := 4) (oi := { dst := some 17, op := Go.Op.convert 5 24 (Go.Operand.tmp 16), type := 24, pos := "ref.go:105", after := #[{ on := 3, ground := Go.Ground.data }], guard := none }) (v := _) rfl (by kernel_rfl) (by kernel_rfl) (by kernel_rfl) (fun _ _ _ h => h) ((show YieldsIf _ _ _ _ (.int .u32 b0) _ from Or.inl ⟨by rfl, fun w hSw => by go_simp; try simp only [hc0, hc1, hc2, hc3]⟩)) hHeld ?_
    try simp only [Act.put, List.setIfInBounds_toArray, List.set_cons_zero, List.set_cons_succ]
    refine wpAnyH_take (i := 5) (oi := { dst := some 18, op := Go.Op.fieldAddr 46 (Go.Operand.tmp 1) 0, type := 0, pos := "ref.go:105", after := #[], guard := none }) (v := ?_) rfl (by kernel_rfl) (by kernel_rfl) (by kernel_rfl) (fun _ _ _ h => h) (Or.inl ⟨by rfl, ?_⟩) hHeld ?_
    rotate_left
    · intro w hSw; go_simp; with_reducible rfl
    try simp only [Act.put, List.setIfInBounds_toArray, List.set_cons_zero, List.set_cons_succ]
    refine wpAnyH_take (i := 6) (oi := { dst := some 19, op := Go.Op.load 22 (Go.Operand.tmp 18), type := 22, pos := "ref.go:105", after := #[{ on := 5, ground := Go.Ground.data }], guard := none }) (v := _) rfl (by kernel_rfl) (by kernel_rfl) (by kernel_rfl) (fun _ _ _ h => h) ((show YieldsIf _ _ _ _ (.slice (some ad) l.length c) _ from Or.inl ⟨by rfl, fun w hSw => by have hc := hSw.1; go_simp⟩)) hHeld ?_
    try simp only [Act.put, List.setIfInBounds_toArray, List.set_cons_zero, List.set_cons_succ]
    refine wpAnyH_take (i := 7) (oi := { dst := some 20, op := Go.Op.indexAddr 22 (Go.Operand.tmp 19) (Go.Operand.const (Go.Value.int Go.IntKind.i64 1)), type := 0, pos := "ref.go:105", after := #[{ on := 6, ground := Go.Ground.data }], guard := none }) (v := _) rfl (by kernel_rfl) (by kernel_rfl) (by kernel_rfl) (fun _ _ _ h => h) ((show YieldsIf _ _ _ _ (.pointer (some ⟨ad.block, ad.off + 1, none⟩)) _ from Or.inl ⟨by rfl, fun w hSw => by go_simp; intro h; exfalso; (first | omega | (subst h; simp at hl4))⟩)) hHeld ?_
    try simp only [Act.put, List.setIfInBounds_toArray, List.set_cons_zero, List.set_cons_succ]
    refine wpAnyH_take (i := 8) (oi := { dst := some 21, op := Go.Op.load 5 (Go.Operand.tmp 20), type := 5, pos := "ref.go:105", after := #[{ on := 7, ground := Go.Ground.data }], guard := none }) (v := _) rfl (by kernel_rfl) (by kernel_rfl) (by kernel_rfl) (fun _ _ _ h => h) ((show YieldsIf _ _ _ _ (.int .u8 b1) _ from Or.inl ⟨by rfl, fun w hSw => by have hc := hcell1 w hSw.2; go_simp⟩)) hHeld ?_
    try simp only [Act.put, List.setIfInBounds_toArray, List.set_cons_zero, List.set_cons_succ]
    refine wpAnyH_take (i := 9) (oi := { dst := some 22, op := Go.Op.convert 5 24 (Go.Operand.tmp 21), type := 24, pos := "ref.go:105", after := #[{ on := 8, ground := Go.Ground.data }], guard := none }) (v := _) rfl (by kernel_rfl) (by kernel_rfl) (by kernel_rfl) (fun _ _ _ h => h) ((show YieldsIf _ _ _ _ (.int .u32 b1) _ from Or.inl ⟨by rfl, fun w hSw => by go_simp; try simp only [hc0, hc1, hc2, hc3]⟩)) hHeld ?_
    try simp only [Act.put, List.setIfInBounds_toArray, List.set_cons_zero, List.set_cons_succ]
    refine wpAnyH_take (i := 10) (oi := { dst := some 23, op := Go.Op.binOp Go.BinOp.mul 24 (Go.Operand.const (Go.Value.int Go.IntKind.u32 256)) (Go.Operand.tmp 22) 24, type := 24, pos := "ref.go:105", after := #[{ on := 9, ground := Go.Ground.data }], guard := none }) (v := _) rfl (by kernel_rfl) (by kernel_rfl) (by kernel_rfl) (fun _ _ _ h => h) ((show YieldsIf _ _ _ _ (.int .u32 (256 * b1)) _ from Or.inl ⟨by rfl, fun w hSw => by go_simp; try simp only [hwA, hwB, hwC, hwD, hwE, hwF]⟩)) hHeld ?_
    try simp only [Act.put, List.setIfInBounds_toArray, List.set_cons_zero, List.set_cons_succ]
    refine wpAnyH_take (i := 11) (oi := { dst := some 24, op := Go.Op.binOp Go.BinOp.add 24 (Go.Operand.tmp 17) (Go.Operand.tmp 23) 24, type := 24, pos := "ref.go:105", after := #[{ on := 4, ground := Go.Ground.data }, { on := 10, ground := Go.Ground.data }], guard := none }) (v := _) rfl (by kernel_rfl) (by kernel_rfl) (by kernel_rfl) (fun _ _ _ h => h) ((show YieldsIf _ _ _ _ (.int .u32 (b0 + 256 * b1)) _ from Or.inl ⟨by rfl, fun w hSw => by go_simp; try simp only [hwA, hwB, hwC, hwD, hwE, hwF]⟩)) hHeld ?_
    try simp only [Act.put, List.setIfInBounds_toArray, List.set_cons_zero, List.set_cons_succ]
    refine wpAnyH_take (i := 12) (oi := { dst := some 25, op := Go.Op.fieldAddr 46 (Go.Operand.tmp 1) 0, type := 0, pos := "ref.go:105", after := #[], guard := none }) (v := ?_) rfl (by kernel_rfl) (by kernel_rfl) (by kernel_rfl) (fun _ _ _ h => h) (Or.inl ⟨by rfl, ?_⟩) hHeld ?_
    rotate_left
    · intro w hSw; go_simp; with_reducible rfl
    try simp only [Act.put, List.setIfInBounds_toArray, List.set_cons_zero, List.set_cons_succ]
    refine wpAnyH_take (i := 13) (oi := { dst := some 26, op := Go.Op.load 22 (Go.Operand.tmp 25), type := 22, pos := "ref.go:105", after := #[{ on := 12, ground := Go.Ground.data }], guard := none }) (v := _) rfl (by kernel_rfl) (by kernel_rfl) (by kernel_rfl) (fun _ _ _ h => h) ((show YieldsIf _ _ _ _ (.slice (some ad) l.length c) _ from Or.inl ⟨by rfl, fun w hSw => by have hc := hSw.1; go_simp⟩)) hHeld ?_
    try simp only [Act.put, List.setIfInBounds_toArray, List.set_cons_zero, List.set_cons_succ]
    refine wpAnyH_take (i := 14) (oi := { dst := some 27, op := Go.Op.indexAddr 22 (Go.Operand.tmp 26) (Go.Operand.const (Go.Value.int Go.IntKind.i64 2)), type := 0, pos := "ref.go:105", after := #[{ on := 13, ground := Go.Ground.data }], guard := none }) (v := _) rfl (by kernel_rfl) (by kernel_rfl) (by kernel_rfl) (fun _ _ _ h => h) ((show YieldsIf _ _ _ _ (.pointer (some ⟨ad.block, ad.off + 2, none⟩)) _ from Or.inl ⟨by rfl, fun w hSw => by go_simp; intro h; exfalso; (first | omega | (subst h; simp at hl4))⟩)) hHeld ?_
    try simp only [Act.put, List.setIfInBounds_toArray, List.set_cons_zero, List.set_cons_succ]
    refine wpAnyH_take (i := 15) (oi := { dst := some 28, op := Go.Op.load 5 (Go.Operand.tmp 27), type := 5, pos := "ref.go:105", after := #[{ on := 14, ground := Go.Ground.data }], guard := none }) (v := _) rfl (by kernel_rfl) (by kernel_rfl) (by kernel_rfl) (fun _ _ _ h => h) ((show YieldsIf _ _ _ _ (.int .u8 b2) _ from Or.inl ⟨by rfl, fun w hSw => by have hc := hcell2 w hSw.2; go_simp⟩)) hHeld ?_
    try simp only [Act.put, List.setIfInBounds_toArray, List.set_cons_zero, List.set_cons_succ]
    refine wpAnyH_take (i := 16) (oi := { dst := some 29, op := Go.Op.convert 5 24 (Go.Operand.tmp 28), type := 24, pos := "ref.go:105", after := #[{ on := 15, ground := Go.Ground.data }], guard := none }) (v := _) rfl (by kernel_rfl) (by kernel_rfl) (by kernel_rfl) (fun _ _ _ h => h) ((show YieldsIf _ _ _ _ (.int .u32 b2) _ from Or.inl ⟨by rfl, fun w hSw => by go_simp; try simp only [hc0, hc1, hc2, hc3]⟩)) hHeld ?_
    try simp only [Act.put, List.setIfInBounds_toArray, List.set_cons_zero, List.set_cons_succ]
    refine wpAnyH_take (i := 17) (oi := { dst := some 30, op := Go.Op.binOp Go.BinOp.mul 24 (Go.Operand.const (Go.Value.int Go.IntKind.u32 65536)) (Go.Operand.tmp 29) 24, type := 24, pos := "ref.go:105", after := #[{ on := 16, ground := Go.Ground.data }], guard := none }) (v := _) rfl (by kernel_rfl) (by kernel_rfl) (by kernel_rfl) (fun _ _ _ h => h) ((show YieldsIf _ _ _ _ (.int .u32 (65536 * b2)) _ from Or.inl ⟨by rfl, fun w hSw => by go_simp; try simp only [hwA, hwB, hwC, hwD, hwE, hwF]⟩)) hHeld ?_
    try simp only [Act.put, List.setIfInBounds_toArray, List.set_cons_zero, List.set_cons_succ]
    refine wpAnyH_take (i := 18) (oi := { dst := some 31, op := Go.Op.binOp Go.BinOp.add 24 (Go.Operand.tmp 24) (Go.Operand.tmp 30) 24, type := 24, pos := "ref.go:105", after := #[{ on := 11, ground := Go.Ground.data }, { on := 17, ground := Go.Ground.data }], guard := none }) (v := _) rfl (by kernel_rfl) (by kernel_rfl) (by kernel_rfl) (fun _ _ _ h => h) ((show YieldsIf _ _ _ _ (.int .u32 (b0 + 256 * b1 + 65536 * b2)) _ from Or.inl ⟨by rfl, fun w hSw => by go_simp; try simp only [hwA, hwB, hwC, hwD, hwE, hwF]⟩)) hHeld ?_
    try simp only [Act.put, List.setIfInBounds_toArray, List.set_cons_zero, List.set_cons_succ]
    refine wpAnyH_take (i := 19) (oi := { dst := some 32, op := Go.Op.fieldAddr 46 (Go.Operand.tmp 1) 0, type := 0, pos := "ref.go:105", after := #[], guard := none }) (v := ?_) rfl (by kernel_rfl) (by kernel_rfl) (by kernel_rfl) (fun _ _ _ h => h) (Or.inl ⟨by rfl, ?_⟩) hHeld ?_
    rotate_left
    · intro w hSw; go_simp; with_reducible rfl
    try simp only [Act.put, List.setIfInBounds_toArray, List.set_cons_zero, List.set_cons_succ]
    refine wpAnyH_take (i := 20) (oi := { dst := some 33, op := Go.Op.load 22 (Go.Operand.tmp 32), type := 22, pos := "ref.go:105", after := #[{ on := 19, ground := Go.Ground.data }], guard := none }) (v := _) rfl (by kernel_rfl) (by kernel_rfl) (by kernel_rfl) (fun _ _ _ h => h) ((show YieldsIf _ _ _ _ (.slice (some ad) l.length c) _ from Or.inl ⟨by rfl, fun w hSw => by have hc := hSw.1; go_simp⟩)) hHeld ?_
    try simp only [Act.put, List.setIfInBounds_toArray, List.set_cons_zero, List.set_cons_succ]
    refine wpAnyH_take (i := 21) (oi := { dst := some 34, op := Go.Op.indexAddr 22 (Go.Operand.tmp 33) (Go.Operand.const (Go.Value.int Go.IntKind.i64 3)), type := 0, pos := "ref.go:105", after := #[{ on := 20, ground := Go.Ground.data }], guard := none }) (v := _) rfl (by kernel_rfl) (by kernel_rfl) (by kernel_rfl) (fun _ _ _ h => h) ((show YieldsIf _ _ _ _ (.pointer (some ⟨ad.block, ad.off + 3, none⟩)) _ from Or.inl ⟨by rfl, fun w hSw => by go_simp; intro h; exfalso; (first | omega | (subst h; simp at hl4))⟩)) hHeld ?_
    try simp only [Act.put, List.setIfInBounds_toArray, List.set_cons_zero, List.set_cons_succ]
    refine wpAnyH_take (i := 22) (oi := { dst := some 35, op := Go.Op.load 5 (Go.Operand.tmp 34), type := 5, pos := "ref.go:105", after := #[{ on := 21, ground := Go.Ground.data }], guard := none }) (v := _) rfl (by kernel_rfl) (by kernel_rfl) (by kernel_rfl) (fun _ _ _ h => h) ((show YieldsIf _ _ _ _ (.int .u8 b3) _ from Or.inl ⟨by rfl, fun w hSw => by have hc := hcell3 w hSw.2; go_simp⟩)) hHeld ?_
    try simp only [Act.put, List.setIfInBounds_toArray, List.set_cons_zero, List.set_cons_succ]
    refine wpAnyH_take (i := 23) (oi := { dst := some 36, op := Go.Op.convert 5 24 (Go.Operand.tmp 35), type := 24, pos := "ref.go:105", after := #[{ on := 22, ground := Go.Ground.data }], guard := none }) (v := _) rfl (by kernel_rfl) (by kernel_rfl) (by kernel_rfl) (fun _ _ _ h => h) ((show YieldsIf _ _ _ _ (.int .u32 b3) _ from Or.inl ⟨by rfl, fun w hSw => by go_simp; try simp only [hc0, hc1, hc2, hc3]⟩)) hHeld ?_
    try simp only [Act.put, List.setIfInBounds_toArray, List.set_cons_zero, List.set_cons_succ]
    refine wpAnyH_take (i := 24) (oi := { dst := some 37, op := Go.Op.binOp Go.BinOp.mul 24 (Go.Operand.const (Go.Value.int Go.IntKind.u32 16777216)) (Go.Operand.tmp 36) 24, type := 24, pos := "ref.go:105", after := #[{ on := 23, ground := Go.Ground.data }], guard := none }) (v := _) rfl (by kernel_rfl) (by kernel_rfl) (by kernel_rfl) (fun _ _ _ h => h) ((show YieldsIf _ _ _ _ (.int .u32 (16777216 * b3)) _ from Or.inl ⟨by rfl, fun w hSw => by go_simp; try simp only [hwA, hwB, hwC, hwD, hwE, hwF]⟩)) hHeld ?_
    try simp only [Act.put, List.setIfInBounds_toArray, List.set_cons_zero, List.set_cons_succ]
    refine wpAnyH_take (i := 25) (oi := { dst := some 38, op := Go.Op.binOp Go.BinOp.add 24 (Go.Operand.tmp 31) (Go.Operand.tmp 37) 24, type := 24, pos := "ref.go:105", after := #[{ on := 18, ground := Go.Ground.data }, { on := 24, ground := Go.Ground.data }], guard := none }) (v := _) rfl (by kernel_rfl) (by kernel_rfl) (by kernel_rfl) (fun _ _ _ h => h) ((show YieldsIf _ _ _ _ (.int .u32 (b0 + 256 * b1 + 65536 * b2 + 16777216 * b3)) _ from Or.inl ⟨by rfl, fun w hSw => by go_simp; try simp only [hwA, hwB, hwC, hwD, hwE, hwF]⟩)) hHeld ?_
    try simp only [Act.put, List.setIfInBounds_toArray, List.set_cons_zero, List.set_cons_succ]
    refine wpAnyH_take (i := 26) (oi := { dst := some 39, op := Go.Op.fieldAddr 46 (Go.Operand.tmp 1) 0, type := 0, pos := "ref.go:105", after := #[], guard := none }) (v := ?_) rfl (by kernel_rfl) (by kernel_rfl) (by kernel_rfl) (fun _ _ _ h => h) (Or.inl ⟨by rfl, ?_⟩) hHeld ?_
    rotate_left
    · intro w hSw; go_simp; with_reducible rfl
    try simp only [Act.put, List.setIfInBounds_toArray, List.set_cons_zero, List.set_cons_succ]
    refine wpAnyH_take (i := 27) (oi := { dst := some 40, op := Go.Op.load 22 (Go.Operand.tmp 39), type := 22, pos := "ref.go:105", after := #[{ on := 26, ground := Go.Ground.data }], guard := none }) (v := _) rfl (by kernel_rfl) (by kernel_rfl) (by kernel_rfl) (fun _ _ _ h => h) ((show YieldsIf _ _ _ _ (.slice (some ad) l.length c) _ from Or.inl ⟨by rfl, fun w hSw => by have hc := hSw.1; go_simp⟩)) hHeld ?_
    try simp only [Act.put, List.setIfInBounds_toArray, List.set_cons_zero, List.set_cons_succ]
    refine wpAnyH_take (i := 28) (oi := { dst := some 41, op := Go.Op.slice 22 (Go.Operand.tmp 40) (some (Go.Operand.const (Go.Value.int Go.IntKind.i64 4))) none none, type := 22, pos := "ref.go:105", after := #[{ on := 27, ground := Go.Ground.data }], guard := none }) (v := _) rfl (by kernel_rfl) (by kernel_rfl) (by kernel_rfl) (fun _ _ _ h => h) ((show YieldsIf _ _ _ _ (.slice sa (l.length - 4) (c - 4)) _ from hsa ▸ yields_low (by rfl) (.tmp 40) (.const (.int .i64 4)) rfl (some ad) l.length c 4 .i64 rfl rfl hl4)) hHeld ?_
    try simp only [Act.put, List.setIfInBounds_toArray, List.set_cons_zero, List.set_cons_succ]
    refine wpAnyH_take (i := 29) (oi := { dst := some 42, op := Go.Op.build 46 #[(0, Go.Operand.tmp 41), (1, Go.Operand.const (Go.Value.bool false))], type := 46, pos := "ref.go:105", after := #[{ on := 28, ground := Go.Ground.data }, { on := 30, ground := Go.Ground.gcOnly Go.Departure.lateStores }], guard := none }) (v := ?_) rfl (by kernel_rfl) (by kernel_rfl) (by kernel_rfl) (fun _ _ _ h => h) (Or.inl ⟨by rfl, ?_⟩) hHeld ?_
    rotate_left
    · intro w hSw; go_simp; with_reducible rfl
    try simp only [Act.put, List.setIfInBounds_toArray, List.set_cons_zero, List.set_cons_succ]
    refine wpAnyH_take (i := 30) (oi := { dst := some 2, op := Go.Op.assign (Go.Operand.tmp 38), type := 24, pos := "ref.go:105", after := #[{ on := 25, ground := Go.Ground.data }, { on := 0, ground := Go.Ground.phase }, { on := 1, ground := Go.Ground.phase }, { on := 2, ground := Go.Ground.phase }, { on := 3, ground := Go.Ground.phase }, { on := 4, ground := Go.Ground.phase }, { on := 5, ground := Go.Ground.phase }, { on := 6, ground := Go.Ground.phase }, { on := 7, ground := Go.Ground.phase }, { on := 8, ground := Go.Ground.phase }, { on := 9, ground := Go.Ground.phase }, { on := 10, ground := Go.Ground.phase }, { on := 11, ground := Go.Ground.phase }, { on := 12, ground := Go.Ground.phase }, { on := 13, ground := Go.Ground.phase }, { on := 14, ground := Go.Ground.phase }, { on := 15, ground := Go.Ground.phase }, { on := 16, ground := Go.Ground.phase }, { on := 17, ground := Go.Ground.phase }, { on := 18, ground := Go.Ground.phase }, { on := 19, ground := Go.Ground.phase }, { on := 20, ground := Go.Ground.phase }, { on := 21, ground := Go.Ground.phase }, { on := 22, ground := Go.Ground.phase }, { on := 23, ground := Go.Ground.phase }, { on := 24, ground := Go.Ground.phase }, { on := 25, ground := Go.Ground.phase }, { on := 26, ground := Go.Ground.textOnly Go.Departure.lateStores }, { on := 27, ground := Go.Ground.textOnly Go.Departure.lateStores }, { on := 28, ground := Go.Ground.textOnly Go.Departure.lateStoresUnsure }, { on := 29, ground := Go.Ground.textOnly Go.Departure.lateStores }], guard := none }) (v := ?_) rfl (by kernel_rfl) (by kernel_rfl) (by kernel_rfl) (fun _ _ _ h => h) (Or.inl ⟨by rfl, ?_⟩) hHeld ?_
    rotate_left
    · intro w hSw; go_simp; with_reducible rfl
    try simp only [Act.put, List.setIfInBounds_toArray, List.set_cons_zero, List.set_cons_succ]
    refine wpAnyH_ready (rs := [31]) (by kernel_rfl) (by simp) ?_
    refine AllReadyH.cons (o := { dst := none, op := Go.Op.store 46 (Go.Operand.tmp 3) (Go.Operand.tmp 42), type := 0, pos := "ref.go:105", after := #[{ on := 29, ground := Go.Ground.data }, { on := 30, ground := Go.Ground.chain }, { on := 0, ground := Go.Ground.phase }, { on := 1, ground := Go.Ground.phase }, { on := 2, ground := Go.Ground.phase }, { on := 3, ground := Go.Ground.phase }, { on := 4, ground := Go.Ground.phase }, { on := 5, ground := Go.Ground.phase }, { on := 6, ground := Go.Ground.phase }, { on := 7, ground := Go.Ground.phase }, { on := 8, ground := Go.Ground.phase }, { on := 9, ground := Go.Ground.phase }, { on := 10, ground := Go.Ground.phase }, { on := 11, ground := Go.Ground.phase }, { on := 12, ground := Go.Ground.phase }, { on := 13, ground := Go.Ground.phase }, { on := 14, ground := Go.Ground.phase }, { on := 15, ground := Go.Ground.phase }, { on := 16, ground := Go.Ground.phase }, { on := 17, ground := Go.Ground.phase }, { on := 18, ground := Go.Ground.phase }, { on := 19, ground := Go.Ground.phase }, { on := 20, ground := Go.Ground.phase }, { on := 21, ground := Go.Ground.phase }, { on := 22, ground := Go.Ground.phase }, { on := 23, ground := Go.Ground.phase }, { on := 24, ground := Go.Ground.phase }, { on := 25, ground := Go.Ground.phase }, { on := 26, ground := Go.Ground.phase }, { on := 27, ground := Go.Ground.phase }, { on := 28, ground := Go.Ground.phase }, { on := 29, ground := Go.Ground.phase }, { on := 30, ground := Go.Ground.phase }], guard := none }) rfl (fun K hK => ?_) AllReadyH.nil
    refine step_store (by rfl) 46 (.tmp 3) (.tmp 42) rfl (w.heap.size + 1) #[(.slice sa (l.length - 4) (c - 4)), .bool false] rfl rfl (there_cs HZ7.out rfl) size46 HSV1.out ?_
    refine hK.out _ _ (⟨HX1.out, HBy.out⟩) (fun hHeld => ?_)
    clear hK K
    try simp only [Act.put, List.setIfInBounds_toArray, List.set_cons_zero, List.set_cons_succ]
    refine wpAnyH_done (by kernel_rfl) ?_ _
    refine NoPanic.normal ?_
    go_wp2
    refine ret_in (p := 3) (u := 2) ?_ (w.heap.size + 1) (0, 0) (.int .u32 (b0 + 256 * b1 + 65536 * b2 + 16777216 * b3)) (.slice sa (l.length - 4) (c - 4)) (.bool false) ?_ ?_ ?_ (setCells_row HZ7.out [(.slice sa (l.length - 4) (c - 4)), .bool false] rfl) ?_
    all_goals first | rfl | skip
    rw [HT.out]
    refine ⟨_, rfl, ?_, HBz.out⟩
    rw [← hsa]
    exact inv_drop HC.out HCC.out hl4
end Go.Proofs.Ytighpoelpedneaa

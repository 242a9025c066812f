import Derived.Test.YtcpcellocnojcaaCmp
import Derived.Test.YtcpcellocnojcaaEqArr
namespace Go.Proofs.Ytcpcellocnojcaa
open Go Go.RowKit Go.Proofs.YtcpcellocnojcaaW.PrintWords
set_option linter.unusedVariables false
set_option linter.unusedSimpArgs false

theorem enter15 (vs : Array Value) (W : World) : (callFunc 15 vs).run Try.prog W = .ok (.enter 15 vs) W := enter_of Try.func15 (by rfl) (by decide +kernel) vs W
theorem enter16 (vs : Array Value) (W : World) : (callFunc 16 vs).run Try.prog W = .ok (.enter 16 vs) W := enter_of Try.func16 (by rfl) (by decide +kernel) vs W
theorem cmp_v (c1 c2 : Array Value) (a b : List Int) (w : World) (ha : Arr 32 c1 a) (hb : Arr 32 c2 b) :
    Calls Try.prog 15 #[.agg c1, .agg c2] w fun e w' => ∃ u, e = .returned u ∧ u = .int .i64 (cmpI a b) ∧ Below w.heap.size w w' :=
  (cmp_any c1 c2 a b w ha hb).mono fun _ _ ⟨he, hw⟩ => ⟨_, he, rfl, hw⟩
theorem refCmp_v (c1 c2 : Array Value) (a b : List Int) (w : World) (ha : Arr 32 c1 a) (hb : Arr 32 c2 b) :
    Calls Try.prog 16 #[.agg c1, .agg c2] w fun e w' => ∃ u, e = .returned u ∧ u = .int .i64 (cmpI a b) ∧ Below w.heap.size w w' :=
  (refCmp_any c1 c2 a b w ha hb).mono fun _ _ ⟨he, hw⟩ => ⟨_, he, rfl, hw⟩
def oneL : List Int := [1, 0, 0, 0, 0, 0, 0, 0, 0, 0, 0, 0, 0, 0, 0, 0, 0, 0, 0, 0, 0, 0, 0, 0, 0, 0, 0, 0, 0, 0, 0, 0]
def twoL : List Int := [2, 0, 0, 0, 0, 0, 0, 0, 0, 0, 0, 0, 0, 0, 0, 0, 0, 0, 0, 0, 0, 0, 0, 0, 0, 0, 0, 0, 0, 0, 0, 0]
theorem one_two : cmpI oneL twoL = -1 := by decide
theorem one_arr : Arr 32 (cellsN oneL) oneL := Arr.mk' oneL rfl (by decide)
theorem two_arr : Arr 32 (cellsN twoL) twoL := Arr.mk' twoL rfl (by decide)

set_option maxHeartbeats 2000000 in
set_option maxRecDepth 20000 in
theorem ShaCmp_any (c1 c2 : Array Value) (a b : List Int) (w : World) (ha : Arr 32 c1 a) (hb : Arr 32 c2 b) :
    Calls Try.prog 5 #[.agg c1, .agg c2] w fun e w' => e = .returned (.bool true) ∧ Below w.heap.size w w' := by
  have HA := Aside0.mk ha
  have HB := Aside0.mk hb
  have h23 := Try.underlying23
  have HR1 := Aside0.mk (range_cs (heap_alloc2_old w (.cells c1 23) (.cells c2 23)))
  have HR2 := Aside0.mk (range_cs (heap_alloc2_new w (.cells c1 23) (.cells c2 23)))
  have HS1 := Aside0.mk (show (Try.prog.info? 23).map (·.size) = some c1.size by rw [size23, HA.out.size])
  have HS2 := Aside0.mk (show (Try.prog.info? 23).map (·.size) = some c2.size by rw [size23, HB.out.size])
  have HT1 := Aside0.mk (show (Try.prog.info? 23).map (·.size) = some c1.toList.length by rw [size23, Array.length_toList, HA.out.size])
  have HT2 := Aside0.mk (show (Try.prog.info? 23).map (·.size) = some c2.toList.length by rw [size23, Array.length_toList, HB.out.size])
  have HW := Aside0.mk (below_alloc (below_alloc (Below.refl w.heap.size w) (.cells c1 23)) (.cells c2 23))
  obtain ⟨c, hc⟩ : ∃ c, cmpI a b = c := ⟨_, rfl⟩
  have hv := cmpI_vals a b
  have hs : cmpI b a = -c := by rw [cmpI_swap, hc]
  have hless : Op.bytesLess (strOfNums (hexL a)).toList (strOfNums (hexL b)).toList = decide (c < 0) := by
    rw [strOf_list, strOf_list, less_hex a b (by rw [HA.out.len, HB.out.len]) HA.out.wf HB.out.wf, hc]
  have heq : ∀ W, (Op.equalIn 10000 23 (.agg c1) (.agg c2)).run Try.prog W = .ok (decide (c = 0)) W := fun W => by
    have := eq32 W a b HA.out.len HB.out.len
    rw [← HA.out.eq, ← HB.out.eq] at this
    rw [this]
    congr 1
    rw [decide_eq_decide, ← hc, cmpI_zero]
  rw [hc] at hv
  have hneg : IntKind.i64.wrap (-c) = -c := by rw [IntKind.wrap_i64]; omega
  have HV := Aside0.mk hc
  have HVS := Aside0.mk hs
  clear ha hb hs hc
  have h12 := one_two
  go_enter Try.func5, Try.ntmps5
  go_wp2_with (first
    | (go_at_call 10; (refine (hexing_any _).mono ?_); rintro e w1 ⟨rfl, hb1⟩; have HB1 := Aside0.mk hb1; clear hb1)
    | (go_at_call 15; (refine (cmp_any _ _ oneL twoL w1 one_arr two_arr).mono ?_); rintro e w2 ⟨rfl, hb1⟩; have HB2 := Aside0.mk (below_step HB1.out hb1); clear hb1; rw [h12])
    | ((with_reducible refine arm_load (ty := 23) (x := .tmp 2) (b := w.heap.size) (cs := c1) ?_ ?_ ?_ h23 HS1.out ?_); rfl; rfl; exact range_below HB2.out (by simp; omega) HR1.out)
    | ((with_reducible refine arm_load (ty := 23) (x := .tmp 3) (b := w.heap.size + 1) (cs := c2) ?_ ?_ ?_ h23 HS2.out ?_); rfl; rfl; exact range_below HB2.out (by simp) HR2.out)
    | (go_at_call 15; (refine (cmp_any c1 c2 a b w2 HA.out HB.out).mono ?_); rintro e w3 ⟨rfl, hb1⟩; have HB3 := Aside0.mk (below_step HB2.out hb1); clear hb1; rw [HV.out]))
  have HX := Aside0.mk (below_drew1 HB3.out)
  refine wp_region_noPanic ?_
  refine wp_region_held_drew (S := (fun w' => w'.rangeAt w.heap.size 0 c1.toList ∧ w'.rangeAt (w.heap.size + 1) 0 c2.toList)) (by kernel_rfl) ?_ (fun hHeld => ?_)
  · exact ⟨range_below HX.out (by simp; omega) HR1.out, range_below HX.out (by simp) HR2.out⟩
  refine wpAnyH_take (i := 0) (oi := { dst := some 17, op := Go.Op.move (Go.Operand.tmp 5), type := 3, pos := "law.go:99", after := #[], guard := none }) (v := ?_) rfl (by kernel_rfl) (by kernel_rfl) (by kernel_rfl) (fun _ _ _ h => h) (Or.inl ⟨by rfl, ?_⟩) hHeld ?_
  rotate_left
  · intro w hSw; go_simp; with_reducible rfl
  try simp only [Act.put, List.setIfInBounds_toArray, List.set_cons_zero, List.set_cons_succ]
  refine wpAnyH_take (i := 1) (oi := { dst := some 18, op := Go.Op.load 23 (Go.Operand.tmp 2), type := 23, pos := "law.go:99", after := #[], guard := none }) (v := _) rfl (by kernel_rfl) (by kernel_rfl) (by kernel_rfl) (fun _ _ _ h => h) (yieldsIf_load_mid (by rfl) 23 (.tmp 2) rfl w.heap.size 0 rfl c1.toList _ (fun _ h => h.1) h23 rfl HT1.out) hHeld ?_
  try simp only [Act.put, List.setIfInBounds_toArray, List.set_cons_zero, List.set_cons_succ]
  refine wpAnyH_take (i := 2) (oi := { dst := some 19, op := Go.Op.load 23 (Go.Operand.tmp 3), type := 23, pos := "law.go:99", after := #[], guard := none }) (v := _) rfl (by kernel_rfl) (by kernel_rfl) (by kernel_rfl) (fun _ _ _ h => h) (yieldsIf_load_mid (by rfl) 23 (.tmp 3) rfl (w.heap.size + 1) 0 rfl c2.toList _ (fun _ h => h.2) h23 rfl HT2.out) hHeld ?_
  try simp only [Act.put, List.setIfInBounds_toArray, List.set_cons_zero, List.set_cons_succ]
  refine wpAnyH_ready (rs := [3]) (by kernel_rfl) (by simp) ?_
  refine AllReadyH.cons (o := { dst := some 20, op := Go.Op.call { callee := Go.Callee.value (Go.Operand.func 16), args := #[Go.Operand.tmp 18, Go.Operand.tmp 19], argTypes := #[22, 22] }, type := 3, pos := "law.go:99", after := #[{ on := 1, ground := Go.Ground.data }, { on := 2, ground := Go.Ground.data }], guard := none }) rfl (fun K hK => ?_) AllReadyH.nil
  try rw [(show c1.toList.toArray = c1 from Array.toArray_toList (xs := c1))]
  try rw [(show c2.toList.toArray = c2 from Array.toArray_toList (xs := c2))]
  refine step_call2 (f := 16) (x := .tmp 18) (y := .tmp 19) (v := .agg c1) (u := .agg c2) (by rfl) rfl rfl rfl enter16 (refCmp_v c1 c2 a b _ HA.out HB.out) ?_
  rintro u1 x1 ⟨rfl, hb⟩
  have HX := Aside0.mk (below_step HX.out hb)
  clear hb
  rw [HV.out]
  refine hK.out _ _ (⟨range_below HX.out (by simp; omega) HR1.out, range_below HX.out (by simp) HR2.out⟩) (fun hHeld => ?_)
  clear hK K
  try simp only [Act.put, List.setIfInBounds_toArray, List.set_cons_zero, List.set_cons_succ]
  refine wpAnyH_take (i := 4) (oi := { dst := some 21, op := Go.Op.binOp Go.BinOp.eql 3 (Go.Operand.tmp 17) (Go.Operand.tmp 20) 3, type := 4, pos := "law.go:99", after := #[{ on := 0, ground := Go.Ground.data }, { on := 3, ground := Go.Ground.data }], guard := none }) (v := _) rfl (by kernel_rfl) (by kernel_rfl) (by kernel_rfl) (fun _ _ _ h => h) ((show YieldsIf _ _ _ _ (.bool true) _ from Or.inl ⟨by rfl, fun w hSw => by go_simp; try simp only [decide_true]⟩)) hHeld ?_
  try simp only [Act.put, List.setIfInBounds_toArray, List.set_cons_zero, List.set_cons_succ]
  refine wpAnyH_take (i := 5) (oi := { dst := some 22, op := Go.Op.move (Go.Operand.tmp 21), type := 4, pos := "law.go:99", after := #[{ on := 4, ground := Go.Ground.data }, { on := 3, ground := Go.Ground.chain }], guard := none }) (v := ?_) rfl (by kernel_rfl) (by kernel_rfl) (by kernel_rfl) (fun _ _ _ h => h) (Or.inl ⟨by rfl, ?_⟩) hHeld ?_
  rotate_left
  · intro w hSw; go_simp; with_reducible rfl
  try simp only [Act.put, List.setIfInBounds_toArray, List.set_cons_zero, List.set_cons_succ]
  refine wpAnyH_take (i := 6) (oi := { dst := some 23, op := Go.Op.move (Go.Operand.tmp 5), type := 3, pos := "law.go:99", after := #[{ on := 5, ground := Go.Ground.guard }], guard := some (5, true) }) (v := ?_) rfl (by kernel_rfl) (by kernel_rfl) (by kernel_rfl) (fun _ _ _ h => h) (Or.inl ⟨by rfl, ?_⟩) hHeld ?_
  rotate_left
  · intro w hSw; go_simp; with_reducible rfl
  try simp only [Act.put, List.setIfInBounds_toArray, List.set_cons_zero, List.set_cons_succ]
  refine wpAnyH_take (i := 7) (oi := { dst := some 24, op := Go.Op.binOp Go.BinOp.lss 3 (Go.Operand.tmp 23) (Go.Operand.const (Go.Value.int Go.IntKind.i64 0)) 3, type := 4, pos := "law.go:99", after := #[{ on := 6, ground := Go.Ground.data }, { on := 5, ground := Go.Ground.guard }], guard := some (5, true) }) (v := ?_) rfl (by kernel_rfl) (by kernel_rfl) (by kernel_rfl) (fun _ _ _ h => h) (Or.inl ⟨by rfl, ?_⟩) hHeld ?_
  rotate_left
  · intro w hSw; go_simp; with_reducible rfl
  try simp only [Act.put, List.setIfInBounds_toArray, List.set_cons_zero, List.set_cons_succ]
  refine wpAnyH_take (i := 8) (oi := { dst := some 25, op := Go.Op.load 23 (Go.Operand.tmp 2), type := 23, pos := "law.go:99", after := #[{ on := 5, ground := Go.Ground.guard }], guard := some (5, true) }) (v := _) rfl (by kernel_rfl) (by kernel_rfl) (by kernel_rfl) (fun _ _ _ h => h) (yieldsIf_load_mid (by rfl) 23 (.tmp 2) rfl w.heap.size 0 rfl c1.toList _ (fun _ h => h.1) h23 rfl HT1.out) hHeld ?_
  try simp only [Act.put, List.setIfInBounds_toArray, List.set_cons_zero, List.set_cons_succ]
  refine wpAnyH_take (i := 10) (oi := { dst := some 27, op := Go.Op.load 23 (Go.Operand.tmp 3), type := 23, pos := "law.go:99", after := #[{ on := 5, ground := Go.Ground.guard }], guard := some (5, true) }) (v := _) rfl (by kernel_rfl) (by kernel_rfl) (by kernel_rfl) (fun _ _ _ h => h) (yieldsIf_load_mid (by rfl) 23 (.tmp 3) rfl (w.heap.size + 1) 0 rfl c2.toList _ (fun _ h => h.2) h23 rfl HT2.out) hHeld ?_
  try simp only [Act.put, List.setIfInBounds_toArray, List.set_cons_zero, List.set_cons_succ]
  refine wpAnyH_ready (rs := [9]) (by kernel_rfl) (by simp) ?_
  refine AllReadyH.cons (o := { dst := some 26, op := Go.Op.call { callee := Go.Callee.value (Go.Operand.func 11), args := #[Go.Operand.tmp 25], argTypes := #[23] }, type := 9, pos := "law.go:99", after := #[{ on := 8, ground := Go.Ground.data }, { on := 5, ground := Go.Ground.chain }, { on := 5, ground := Go.Ground.guard }], guard := some (5, true) }) rfl (fun K hK => ?_) AllReadyH.nil
  try rw [(show c1.toList.toArray = c1 from Array.toArray_toList (xs := c1))]
  try rw [(show c2.toList.toArray = c2 from Array.toArray_toList (xs := c2))]
  refine step_call1 (f := 11) (x := .tmp 25) (v := .agg c1) (by rfl) rfl rfl enter11 (hex_v c1 a _ HA.out) ?_
  rintro u2 x2 ⟨rfl, hb⟩
  have HX := Aside0.mk (below_step HX.out hb)
  clear hb
  refine hK.out _ _ (⟨range_below HX.out (by simp; omega) HR1.out, range_below HX.out (by simp) HR2.out⟩) (fun hHeld => ?_)
  clear hK K
  try simp only [Act.put, List.setIfInBounds_toArray, List.set_cons_zero, List.set_cons_succ]
  refine wpAnyH_ready (rs := [11]) (by kernel_rfl) (by simp) ?_
  refine AllReadyH.cons (o := { dst := some 28, op := Go.Op.call { callee := Go.Callee.value (Go.Operand.func 11), args := #[Go.Operand.tmp 27], argTypes := #[23] }, type := 9, pos := "law.go:99", after := #[{ on := 10, ground := Go.Ground.data }, { on := 9, ground := Go.Ground.chain }, { on := 5, ground := Go.Ground.guard }], guard := some (5, true) }) rfl (fun K hK => ?_) AllReadyH.nil
  try rw [(show c1.toList.toArray = c1 from Array.toArray_toList (xs := c1))]
  try rw [(show c2.toList.toArray = c2 from Array.toArray_toList (xs := c2))]
  refine step_call1 (f := 11) (x := .tmp 27) (v := .agg c2) (by rfl) rfl rfl enter11 (hex_v c2 b _ HB.out) ?_
  rintro u3 x3 ⟨rfl, hb⟩
  have HX := Aside0.mk (below_step HX.out hb)
  clear hb
  refine hK.out _ _ (⟨range_below HX.out (by simp; omega) HR1.out, range_below HX.out (by simp) HR2.out⟩) (fun hHeld => ?_)
  clear hK K
  try simp only [Act.put, List.setIfInBounds_toArray, List.set_cons_zero, List.set_cons_succ]
  refine wpAnyH_take (i := 12) (oi := { dst := some 29, op := Go.Op.binOp Go.BinOp.lss 9 (Go.Operand.tmp 26) (Go.Operand.tmp 28) 9, type := 4, pos := "law.go:99", after := #[{ on := 9, ground := Go.Ground.data }, { on := 11, ground := Go.Ground.data }, { on := 5, ground := Go.Ground.guard }], guard := some (5, true) }) (v := _) rfl (by kernel_rfl) (by kernel_rfl) (by kernel_rfl) (fun _ _ _ h => h) ((show YieldsIf _ _ _ _ (.bool (decide (c < 0))) _ from Or.inl ⟨by rfl, fun w hSw => by go_simp; try simp only [hless]⟩)) hHeld ?_
  try simp only [Act.put, List.setIfInBounds_toArray, List.set_cons_zero, List.set_cons_succ]
  refine wpAnyH_take (i := 13) (oi := { dst := some 30, op := Go.Op.binOp Go.BinOp.eql 4 (Go.Operand.tmp 24) (Go.Operand.tmp 29) 4, type := 4, pos := "law.go:99", after := #[{ on := 7, ground := Go.Ground.data }, { on := 12, ground := Go.Ground.data }, { on := 5, ground := Go.Ground.guard }], guard := some (5, true) }) (v := _) rfl (by kernel_rfl) (by kernel_rfl) (by kernel_rfl) (fun _ _ _ h => h) ((show YieldsIf _ _ _ _ (.bool true) _ from Or.inl ⟨by rfl, fun w hSw => by go_simp; try simp only [beq_self_eq_true]⟩)) hHeld ?_
  try simp only [Act.put, List.setIfInBounds_toArray, List.set_cons_zero, List.set_cons_succ]
  refine wpAnyH_take (i := 14) (oi := { dst := some 31, op := Go.Op.pick (Go.Operand.tmp 22) (Go.Operand.tmp 30) (Go.Operand.const (Go.Value.bool false)), type := 4, pos := "law.go:99", after := #[{ on := 5, ground := Go.Ground.data }, { on := 13, ground := Go.Ground.data }], guard := none }) (v := ?_) rfl (by kernel_rfl) (by kernel_rfl) (by kernel_rfl) (fun _ _ _ h => h) (Or.inl ⟨by rfl, ?_⟩) hHeld ?_
  rotate_left
  · intro w hSw; go_simp; with_reducible rfl
  try simp only [Act.put, List.setIfInBounds_toArray, List.set_cons_zero, List.set_cons_succ]
  refine wpAnyH_take (i := 15) (oi := { dst := some 32, op := Go.Op.move (Go.Operand.tmp 31), type := 4, pos := "law.go:99", after := #[{ on := 14, ground := Go.Ground.data }, { on := 11, ground := Go.Ground.chain }], guard := none }) (v := ?_) rfl (by kernel_rfl) (by kernel_rfl) (by kernel_rfl) (fun _ _ _ h => h) (Or.inl ⟨by rfl, ?_⟩) hHeld ?_
  rotate_left
  · intro w hSw; go_simp; with_reducible rfl
  try simp only [Act.put, List.setIfInBounds_toArray, List.set_cons_zero, List.set_cons_succ]
  refine wpAnyH_take (i := 16) (oi := { dst := some 33, op := Go.Op.move (Go.Operand.tmp 5), type := 3, pos := "law.go:99", after := #[{ on := 15, ground := Go.Ground.guard }], guard := some (15, true) }) (v := ?_) rfl (by kernel_rfl) (by kernel_rfl) (by kernel_rfl) (fun _ _ _ h => h) (Or.inl ⟨by rfl, ?_⟩) hHeld ?_
  rotate_left
  · intro w hSw; go_simp; with_reducible rfl
  try simp only [Act.put, List.setIfInBounds_toArray, List.set_cons_zero, List.set_cons_succ]
  refine wpAnyH_take (i := 17) (oi := { dst := some 34, op := Go.Op.binOp Go.BinOp.eql 3 (Go.Operand.tmp 33) (Go.Operand.const (Go.Value.int Go.IntKind.i64 0)) 3, type := 4, pos := "law.go:99", after := #[{ on := 16, ground := Go.Ground.data }, { on := 15, ground := Go.Ground.guard }], guard := some (15, true) }) (v := ?_) rfl (by kernel_rfl) (by kernel_rfl) (by kernel_rfl) (fun _ _ _ h => h) (Or.inl ⟨by rfl, ?_⟩) hHeld ?_
  rotate_left
  · intro w hSw; go_simp; with_reducible rfl
  try simp only [Act.put, List.setIfInBounds_toArray, List.set_cons_zero, List.set_cons_succ]
  refine wpAnyH_take (i := 18) (oi := { dst := some 35, op := Go.Op.load 23 (Go.Operand.tmp 2), type := 23, pos := "law.go:99", after := #[{ on := 15, ground := Go.Ground.guard }], guard := some (15, true) }) (v := _) rfl (by kernel_rfl) (by kernel_rfl) (by kernel_rfl) (fun _ _ _ h => h) (yieldsIf_load_mid (by rfl) 23 (.tmp 2) rfl w.heap.size 0 rfl c1.toList _ (fun _ h => h.1) h23 rfl HT1.out) hHeld ?_
  try simp only [Act.put, List.setIfInBounds_toArray, List.set_cons_zero, List.set_cons_succ]
  refine wpAnyH_take (i := 19) (oi := { dst := some 36, op := Go.Op.load 23 (Go.Operand.tmp 3), type := 23, pos := "law.go:99", after := #[{ on := 15, ground := Go.Ground.guard }], guard := some (15, true) }) (v := _) rfl (by kernel_rfl) (by kernel_rfl) (by kernel_rfl) (fun _ _ _ h => h) (yieldsIf_load_mid (by rfl) 23 (.tmp 3) rfl (w.heap.size + 1) 0 rfl c2.toList _ (fun _ h => h.2) h23 rfl HT2.out) hHeld ?_
  try simp only [Act.put, List.setIfInBounds_toArray, List.set_cons_zero, List.set_cons_succ]
  refine wpAnyH_take (i := 20) (oi := { dst := some 37, op := Go.Op.binOp Go.BinOp.eql 23 (Go.Operand.tmp 35) (Go.Operand.tmp 36) 23, type := 4, pos := "law.go:99", after := #[{ on := 18, ground := Go.Ground.data }, { on := 19, ground := Go.Ground.data }, { on := 15, ground := Go.Ground.guard }], guard := some (15, true) }) (v := _) rfl (by kernel_rfl) (by kernel_rfl) (by kernel_rfl) (fun _ _ _ h => h) ((show YieldsIf _ _ _ _ (.bool (decide (c = 0))) _ from Or.inl ⟨by rfl, fun w hSw => by have he := heq w; go_simp⟩)) hHeld ?_
  try simp only [Act.put, List.setIfInBounds_toArray, List.set_cons_zero, List.set_cons_succ]
  refine wpAnyH_take (i := 21) (oi := { dst := some 38, op := Go.Op.binOp Go.BinOp.eql 4 (Go.Operand.tmp 34) (Go.Operand.tmp 37) 4, type := 4, pos := "law.go:99", after := #[{ on := 17, ground := Go.Ground.data }, { on := 20, ground := Go.Ground.data }, { on := 15, ground := Go.Ground.guard }], guard := some (15, true) }) (v := _) rfl (by kernel_rfl) (by kernel_rfl) (by kernel_rfl) (fun _ _ _ h => h) ((show YieldsIf _ _ _ _ (.bool true) _ from Or.inl ⟨by rfl, fun w hSw => by have e0 : (c == 0) = decide (c = 0) := rfl; go_simp; try simp only [e0]⟩)) hHeld ?_
  try simp only [Act.put, List.setIfInBounds_toArray, List.set_cons_zero, List.set_cons_succ]
  refine wpAnyH_take (i := 22) (oi := { dst := some 39, op := Go.Op.pick (Go.Operand.tmp 32) (Go.Operand.tmp 38) (Go.Operand.const (Go.Value.bool false)), type := 4, pos := "law.go:99", after := #[{ on := 15, ground := Go.Ground.data }, { on := 21, ground := Go.Ground.data }], guard := none }) (v := ?_) rfl (by kernel_rfl) (by kernel_rfl) (by kernel_rfl) (fun _ _ _ h => h) (Or.inl ⟨by rfl, ?_⟩) hHeld ?_
  rotate_left
  · intro w hSw; go_simp; with_reducible rfl
  try simp only [Act.put, List.setIfInBounds_toArray, List.set_cons_zero, List.set_cons_succ]
  refine wpAnyH_take (i := 23) (oi := { dst := some 40, op := Go.Op.move (Go.Operand.tmp 39), type := 4, pos := "law.go:99", after := #[{ on := 22, ground := Go.Ground.data }, { on := 15, ground := Go.Ground.chain }], guard := none }) (v := ?_) rfl (by kernel_rfl) (by kernel_rfl) (by kernel_rfl) (fun _ _ _ h => h) (Or.inl ⟨by rfl, ?_⟩) hHeld ?_
  rotate_left
  · intro w hSw; go_simp; with_reducible rfl
  try simp only [Act.put, List.setIfInBounds_toArray, List.set_cons_zero, List.set_cons_succ]
  refine wpAnyH_take (i := 24) (oi := { dst := some 41, op := Go.Op.load 23 (Go.Operand.tmp 3), type := 23, pos := "law.go:99", after := #[{ on := 23, ground := Go.Ground.guard }], guard := some (23, true) }) (v := _) rfl (by kernel_rfl) (by kernel_rfl) (by kernel_rfl) (fun _ _ _ h => h) (yieldsIf_load_mid (by rfl) 23 (.tmp 3) rfl (w.heap.size + 1) 0 rfl c2.toList _ (fun _ h => h.2) h23 rfl HT2.out) hHeld ?_
  try simp only [Act.put, List.setIfInBounds_toArray, List.set_cons_zero, List.set_cons_succ]
  refine wpAnyH_take (i := 25) (oi := { dst := some 42, op := Go.Op.load 23 (Go.Operand.tmp 2), type := 23, pos := "law.go:99", after := #[{ on := 23, ground := Go.Ground.guard }], guard := some (23, true) }) (v := _) rfl (by kernel_rfl) (by kernel_rfl) (by kernel_rfl) (fun _ _ _ h => h) (yieldsIf_load_mid (by rfl) 23 (.tmp 2) rfl w.heap.size 0 rfl c1.toList _ (fun _ h => h.1) h23 rfl HT1.out) hHeld ?_
  try simp only [Act.put, List.setIfInBounds_toArray, List.set_cons_zero, List.set_cons_succ]
  refine wpAnyH_take (i := 27) (oi := { dst := some 44, op := Go.Op.move (Go.Operand.tmp 5), type := 3, pos := "law.go:99", after := #[{ on := 23, ground := Go.Ground.guard }], guard := some (23, true) }) (v := ?_) rfl (by kernel_rfl) (by kernel_rfl) (by kernel_rfl) (fun _ _ _ h => h) (Or.inl ⟨by rfl, ?_⟩) hHeld ?_
  rotate_left
  · intro w hSw; go_simp; with_reducible rfl
  try simp only [Act.put, List.setIfInBounds_toArray, List.set_cons_zero, List.set_cons_succ]
  refine wpAnyH_take (i := 28) (oi := { dst := some 45, op := Go.Op.unOp Go.UnOp.neg 3 (Go.Operand.tmp 44), type := 3, pos := "law.go:99", after := #[{ on := 27, ground := Go.Ground.data }, { on := 23, ground := Go.Ground.guard }], guard := some (23, true) }) (v := _) rfl (by kernel_rfl) (by kernel_rfl) (by kernel_rfl) (fun _ _ _ h => h) ((show YieldsIf _ _ _ _ (.int .i64 (-c)) _ from Or.inl ⟨by rfl, fun w hSw => by go_simp; try simp only [hneg]⟩)) hHeld ?_
  try simp only [Act.put, List.setIfInBounds_toArray, List.set_cons_zero, List.set_cons_succ]
  refine wpAnyH_ready (rs := [26]) (by kernel_rfl) (by simp) ?_
  refine AllReadyH.cons (o := { dst := some 43, op := Go.Op.call { callee := Go.Callee.value (Go.Operand.func 15), args := #[Go.Operand.tmp 41, Go.Operand.tmp 42], argTypes := #[23, 23] }, type := 3, pos := "law.go:99", after := #[{ on := 24, ground := Go.Ground.data }, { on := 25, ground := Go.Ground.data }, { on := 23, ground := Go.Ground.chain }, { on := 23, ground := Go.Ground.guard }], guard := some (23, true) }) rfl (fun K hK => ?_) AllReadyH.nil
  try rw [(show c1.toList.toArray = c1 from Array.toArray_toList (xs := c1))]
  try rw [(show c2.toList.toArray = c2 from Array.toArray_toList (xs := c2))]
  refine step_call2 (f := 15) (x := .tmp 41) (y := .tmp 42) (v := .agg c2) (u := .agg c1) (by rfl) rfl rfl rfl enter15 (cmp_v c2 c1 b a _ HB.out HA.out) ?_
  rintro u4 x4 ⟨rfl, hb⟩
  have HX := Aside0.mk (below_step HX.out hb)
  clear hb
  rw [HVS.out]
  refine hK.out _ _ (⟨range_below HX.out (by simp; omega) HR1.out, range_below HX.out (by simp) HR2.out⟩) (fun hHeld => ?_)
  clear hK K
  try simp only [Act.put, List.setIfInBounds_toArray, List.set_cons_zero, List.set_cons_succ]
  refine wpAnyH_take (i := 29) (oi := { dst := some 46, op := Go.Op.binOp Go.BinOp.eql 3 (Go.Operand.tmp 43) (Go.Operand.tmp 45) 3, type := 4, pos := "law.go:99", after := #[{ on := 26, ground := Go.Ground.data }, { on := 28, ground := Go.Ground.data }, { on := 23, ground := Go.Ground.guard }], guard := some (23, true) }) (v := _) rfl (by kernel_rfl) (by kernel_rfl) (by kernel_rfl) (fun _ _ _ h => h) ((show YieldsIf _ _ _ _ (.bool true) _ from Or.inl ⟨by rfl, fun w hSw => by go_simp; try simp only [decide_true]⟩)) hHeld ?_
  try simp only [Act.put, List.setIfInBounds_toArray, List.set_cons_zero, List.set_cons_succ]
  refine wpAnyH_take (i := 30) (oi := { dst := some 47, op := Go.Op.pick (Go.Operand.tmp 40) (Go.Operand.tmp 46) (Go.Operand.const (Go.Value.bool false)), type := 4, pos := "law.go:99", after := #[{ on := 23, ground := Go.Ground.data }, { on := 29, ground := Go.Ground.data }], guard := none }) (v := ?_) rfl (by kernel_rfl) (by kernel_rfl) (by kernel_rfl) (fun _ _ _ h => h) (Or.inl ⟨by rfl, ?_⟩) hHeld ?_
  rotate_left
  · intro w hSw; go_simp; with_reducible rfl
  try simp only [Act.put, List.setIfInBounds_toArray, List.set_cons_zero, List.set_cons_succ]
  refine wpAnyH_take (i := 31) (oi := { dst := some 4, op := Go.Op.assign (Go.Operand.tmp 47), type := 4, pos := "law.go:99", after := #[{ on := 30, ground := Go.Ground.data }, { on := 26, ground := Go.Ground.chain }, { on := 0, ground := Go.Ground.phase }, { on := 1, ground := Go.Ground.phase }, { on := 2, ground := Go.Ground.phase }, { on := 3, ground := Go.Ground.phase }, { on := 4, ground := Go.Ground.phase }, { on := 5, ground := Go.Ground.phase }, { on := 6, ground := Go.Ground.phase }, { on := 7, ground := Go.Ground.phase }, { on := 8, ground := Go.Ground.phase }, { on := 9, ground := Go.Ground.phase }, { on := 10, ground := Go.Ground.phase }, { on := 11, ground := Go.Ground.phase }, { on := 12, ground := Go.Ground.phase }, { on := 13, ground := Go.Ground.phase }, { on := 14, ground := Go.Ground.phase }, { on := 15, ground := Go.Ground.phase }, { on := 16, ground := Go.Ground.phase }, { on := 17, ground := Go.Ground.phase }, { on := 18, ground := Go.Ground.phase }, { on := 19, ground := Go.Ground.phase }, { on := 20, ground := Go.Ground.phase }, { on := 21, ground := Go.Ground.phase }, { on := 22, ground := Go.Ground.phase }, { on := 23, ground := Go.Ground.phase }, { on := 24, ground := Go.Ground.phase }, { on := 25, ground := Go.Ground.phase }, { on := 26, ground := Go.Ground.phase }, { on := 27, ground := Go.Ground.phase }, { on := 28, ground := Go.Ground.phase }, { on := 29, ground := Go.Ground.phase }, { on := 30, ground := Go.Ground.phase }], guard := none }) (v := ?_) rfl (by kernel_rfl) (by kernel_rfl) (by kernel_rfl) (fun _ _ _ h => h) (Or.inl ⟨by rfl, ?_⟩) hHeld ?_
  rotate_left
  · intro w hSw; go_simp; with_reducible rfl
  try simp only [Act.put, List.setIfInBounds_toArray, List.set_cons_zero, List.set_cons_succ]
  refine wpAnyH_done (by kernel_rfl) ?_ _
  refine NoPanic.normal ?_
  go_wp2
  go_ret
  exact ⟨rfl, below_step HW.out HX.out⟩
theorem ShaCmp_walk (b0 : List Value) (l0 : List Int) (b1 : List Value) (l1 : List Int) (w : World) (ha0 : Arr 32 b0.toArray l0) (hw0 : ∀ x ∈ l0, (Lit.int .u8 x).wf = true) (ha1 : Arr 32 b1.toArray l1) (hw1 : ∀ x ∈ l1, (Lit.int .u8 x).wf = true) :
    Calls Try.prog 5 #[.agg b0.toArray, .agg b1.toArray] w fun e w' => e = .returned (.bool true) ∧ Below w.heap.size w w' := ShaCmp_any b0.toArray b1.toArray l0 l1 w ha0 ha1
end Go.Proofs.Ytcpcellocnojcaa

import Derived.Test.YtcpcellocnojcaaHexing
import Derived.Test.YtcpcellocnojcaaEqArr
namespace Go.Proofs.Ytcpcellocnojcaa
open Go Go.RowKit Go.Proofs.YtcpcellocnojcaaW.PrintWords
set_option linter.unusedVariables false
set_option linter.unusedSimpArgs false

theorem enter10 (vs : Array Value) (W : World) : (callFunc 10 vs).run Try.prog W = .ok (.enter 10 vs) W := enter_of Try.func10 (by rfl) (by decide +kernel) vs W
theorem enter11 (vs : Array Value) (W : World) : (callFunc 11 vs).run Try.prog W = .ok (.enter 11 vs) W := enter_of Try.func11 (by rfl) (by decide +kernel) vs W
theorem enter12 (vs : Array Value) (W : World) : (callFunc 12 vs).run Try.prog W = .ok (.enter 12 vs) W := enter_of Try.func12 (by rfl) (by decide +kernel) vs W
theorem hexing_v (w : World) : Calls Try.prog 10 #[] w fun e w' => ∃ u, e = .returned u ∧ u = .bool true ∧ Below w.heap.size w w' :=
  (hexing_any w).mono fun _ _ ⟨he, hw⟩ => ⟨_, he, rfl, hw⟩
theorem hex_v (cs : Array Value) (b : List Int) (w : World) (ha : Arr 32 cs b) : Calls Try.prog 11 #[.agg cs] w fun e w' => ∃ u, e = .returned u ∧ u = .string (strOfNums (hexL b)) ∧ Below w.heap.size w w' :=
  (hex_any cs b w ha).mono fun _ _ ⟨he, hw⟩ => ⟨_, he, rfl, hw⟩
theorem refHex_v (cs : Array Value) (b : List Int) (w : World) (ha : Arr 32 cs b) : Calls Try.prog 12 #[.agg cs] w fun e w' => ∃ u, e = .returned u ∧ u = .string (strOfNums (hexL b)) ∧ Below w.heap.size w w' :=
  (refHex_any cs b w ha).mono fun _ _ ⟨he, hw⟩ => ⟨_, he, rfl, hw⟩

theorem range_below {B : Nat} {w w' : World} {g o : Nat} {cs : List Value} (h : Below B w w') (hg : g < B) (hr : w.rangeAt g o cs) : w'.rangeAt g o cs := fun j v hv =>
  (World.cell?_of_block (a := ⟨g, o + j, none⟩) (h.block g hg)).trans (hr j v hv)
theorem step_call0 {ops : Array Oper} {o : Oper} {a : Act} {Q : Exit → Act → World → Prop} {K : Act → World → Prop} {W : World} {E : Prop} {f : FuncId} {tys : Array TypeId} {R : Value → World → Prop} (hw : Region.wanted o (yielded ops a.tmps) = true)
    (ho : o.op = .call { callee := .value (.func f), args := #[], argTypes := tys })
    (hcf : ∀ vs W, (callFunc f vs).run Try.prog W = .ok (.enter f vs) W)
    (hc : Calls Try.prog f #[] W fun e w' => ∃ u, e = .returned u ∧ R u w')
    (h : ∀ u w1, R u w1 → K (a.put o.dst u) w1) :
    if Region.wanted o (yielded ops a.tmps) = true then Oper.wp Try.prog o a W K Q else E := step_call hw ho (by simp) hcf hc h

set_option maxHeartbeats 2000000 in
set_option maxRecDepth 20000 in
theorem ShaHex_any (cs : Array Value) (b : List Int) (s : ByteArray) (w : World) (ha : Arr 32 cs b) (hs : s.size ≤ 140737488351232) :
    Calls Try.prog 3 #[.agg cs, .string s] w fun e w' => e = .returned (.bool true) ∧ Below w.heap.size w w' := by
  have HA := Aside0.mk ha
  have h23 := Try.underlying23
  have h22 := Try.underlying22
  have HRG := Aside0.mk (show (w.alloc (.cells cs 23)).rangeAt w.heap.size 0 cs.toList from range_cs (heap_alloc_new w _))
  have HSZ := Aside0.mk (show (Try.prog.info? 23).map (·.size) = some cs.toList.length by rw [size23, Array.length_toList, HA.out.size])
  clear ha
  go_enter Try.func3, Try.ntmps3
  go_wp2_with fail
  have HB := Aside0.mk (below_drew1 (Below.refl (w.alloc (.cells cs 23)).heap.size (w.alloc (.cells cs 23))))
  refine wp_region_noPanic ?_
  refine wp_region_held_drew (S := (fun w' => w'.rangeAt w.heap.size 0 cs.toList)) (by kernel_rfl) ?_ (fun hHeld => ?_)
  · exact range_below HB.out (by simp) HRG.out
  refine wpAnyH_ready (rs := [0]) (by kernel_rfl) (by simp) ?_
  refine AllReadyH.cons (o := { dst := some 9, op := Go.Op.call { callee := Go.Callee.value (Go.Operand.func 10), args := #[], argTypes := #[] }, type := 4, pos := "law.go:38", after := #[], guard := none }) rfl (fun K hK => ?_) AllReadyH.nil
  refine step_call0 (f := 10) (by rfl) rfl enter10 (hexing_v _) ?_
  rintro v1 w1 ⟨rfl, hb⟩
  have HB := Aside0.mk (below_step HB.out hb)
  clear hb
  refine hK.out _ _ (range_below HB.out (by simp) HRG.out) (fun hHeld => ?_)
  clear hK K
  try simp only [Act.put, List.setIfInBounds_toArray, List.set_cons_zero, List.set_cons_succ]
  refine wpAnyH_take (i := 1) (oi := { dst := some 10, op := Go.Op.unOp Go.UnOp.not 4 (Go.Operand.tmp 9), type := 4, pos := "law.go:38", after := #[{ on := 0, ground := Go.Ground.data }], guard := none }) (v := ?_) rfl (by kernel_rfl) (by kernel_rfl) (by kernel_rfl) (fun _ _ _ h => h) (Or.inl ⟨by rfl, ?_⟩) hHeld ?_
  rotate_left
  · intro w hSw; go_simp; with_reducible rfl
  try simp only [Act.put, List.setIfInBounds_toArray, List.set_cons_zero, List.set_cons_succ]
  refine wpAnyH_take (i := 2) (oi := { dst := some 11, op := Go.Op.move (Go.Operand.tmp 10), type := 4, pos := "law.go:38", after := #[{ on := 1, ground := Go.Ground.data }, { on := 0, ground := Go.Ground.chain }], guard := none }) (v := ?_) rfl (by kernel_rfl) (by kernel_rfl) (by kernel_rfl) (fun _ _ _ h => h) (Or.inl ⟨by rfl, ?_⟩) hHeld ?_
  rotate_left
  · intro w hSw; go_simp; with_reducible rfl
  try simp only [Act.put, List.setIfInBounds_toArray, List.set_cons_zero, List.set_cons_succ]
  refine wpAnyH_take (i := 3) (oi := { dst := some 12, op := Go.Op.load 23 (Go.Operand.tmp 2), type := 23, pos := "law.go:38", after := #[{ on := 2, ground := Go.Ground.guard }], guard := some (2, false) }) (v := _) rfl (by kernel_rfl) (by kernel_rfl) (by kernel_rfl) (fun _ _ _ h => h) (yieldsIf_load_mid (by rfl) 23 (.tmp 2) rfl w.heap.size 0 rfl cs.toList _ (fun _ h => h) h23 rfl HSZ.out) hHeld ?_
  try simp only [Act.put, List.setIfInBounds_toArray, List.set_cons_zero, List.set_cons_succ]
  refine wpAnyH_take (i := 5) (oi := { dst := some 14, op := Go.Op.load 23 (Go.Operand.tmp 2), type := 23, pos := "law.go:38", after := #[{ on := 2, ground := Go.Ground.guard }], guard := some (2, false) }) (v := _) rfl (by kernel_rfl) (by kernel_rfl) (by kernel_rfl) (fun _ _ _ h => h) (yieldsIf_load_mid (by rfl) 23 (.tmp 2) rfl w.heap.size 0 rfl cs.toList _ (fun _ h => h) h23 rfl HSZ.out) hHeld ?_
  try simp only [Act.put, List.setIfInBounds_toArray, List.set_cons_zero, List.set_cons_succ]
  refine wpAnyH_ready (rs := [4]) (by kernel_rfl) (by simp) ?_
  refine AllReadyH.cons (o := { dst := some 13, op := Go.Op.call { callee := Go.Callee.value (Go.Operand.func 11), args := #[Go.Operand.tmp 12], argTypes := #[23] }, type := 9, pos := "law.go:38", after := #[{ on := 3, ground := Go.Ground.data }, { on := 2, ground := Go.Ground.chain }, { on := 2, ground := Go.Ground.guard }], guard := some (2, false) }) rfl (fun K hK => ?_) AllReadyH.nil
  rw [Array.toArray_toList]
  refine step_call1 (f := 11) (x := .tmp 12) (v := .agg cs) (by rfl) rfl rfl enter11 (hex_v _ _ _ HA.out) ?_
  rintro v2 w2 ⟨rfl, hb⟩
  have HB := Aside0.mk (below_step HB.out hb)
  clear hb
  refine hK.out _ _ (range_below HB.out (by simp) HRG.out) (fun hHeld => ?_)
  clear hK K
  try simp only [Act.put, List.setIfInBounds_toArray, List.set_cons_zero, List.set_cons_succ]
  refine wpAnyH_ready (rs := [6]) (by kernel_rfl) (by simp) ?_
  refine AllReadyH.cons (o := { dst := some 15, op := Go.Op.call { callee := Go.Callee.value (Go.Operand.func 12), args := #[Go.Operand.tmp 14], argTypes := #[22] }, type := 9, pos := "law.go:38", after := #[{ on := 5, ground := Go.Ground.data }, { on := 4, ground := Go.Ground.chain }, { on := 2, ground := Go.Ground.guard }], guard := some (2, false) }) rfl (fun K hK => ?_) AllReadyH.nil
  try rw [Array.toArray_toList]
  refine step_call1 (f := 12) (x := .tmp 14) (v := .agg cs) (by rfl) rfl rfl enter12 (refHex_v _ _ _ HA.out) ?_
  rintro v3 w3 ⟨rfl, hb⟩
  have HB := Aside0.mk (below_step HB.out hb)
  clear hb
  refine hK.out _ _ (range_below HB.out (by simp) HRG.out) (fun hHeld => ?_)
  clear hK K
  try simp only [Act.put, List.setIfInBounds_toArray, List.set_cons_zero, List.set_cons_succ]
  refine wpAnyH_take (i := 7) (oi := { dst := some 16, op := Go.Op.binOp Go.BinOp.neq 9 (Go.Operand.tmp 13) (Go.Operand.tmp 15) 9, type := 4, pos := "law.go:38", after := #[{ on := 4, ground := Go.Ground.data }, { on := 6, ground := Go.Ground.data }, { on := 2, ground := Go.Ground.guard }], guard := some (2, false) }) (v := _) rfl (by kernel_rfl) (by kernel_rfl) (by kernel_rfl) (fun _ _ _ h => h) ((show YieldsIf _ _ _ _ (.bool false) _ from Or.inl ⟨by rfl, fun w hSw => by go_simp⟩)) hHeld ?_
  try simp only [Act.put, List.setIfInBounds_toArray, List.set_cons_zero, List.set_cons_succ]
  refine wpAnyH_take (i := 8) (oi := { dst := some 17, op := Go.Op.pick (Go.Operand.tmp 11) (Go.Operand.const (Go.Value.bool true)) (Go.Operand.tmp 16), type := 4, pos := "law.go:38", after := #[{ on := 2, ground := Go.Ground.data }, { on := 7, ground := Go.Ground.data }], guard := none }) (v := ?_) rfl (by kernel_rfl) (by kernel_rfl) (by kernel_rfl) (fun _ _ _ h => h) (Or.inl ⟨by rfl, ?_⟩) hHeld ?_
  rotate_left
  · intro w hSw; go_simp; with_reducible rfl
  try simp only [Act.put, List.setIfInBounds_toArray, List.set_cons_zero, List.set_cons_succ]
  refine wpAnyH_done (by kernel_rfl) ?_ _
  refine NoPanic.normal ?_
  have HB := Aside0.mk (below_step (below_alloc (Below.refl w.heap.size w) _) HB.out)
  have HPL := Aside0.mk (show (parseB (bytesOf s)).length = 32 by
    unfold parseB
    split
    · rename_i hg; rw [pairs_length, ((good_iff _).1 hg).1]
    · rfl)
  obtain ⟨p, ok, HP, HQ, heq, hps, hp1⟩ : ∃ (p : Array Value) (ok : Bool), Aside0 (∀ W, Calls Try.prog 13 #[.string s] W fun e w' => e = .returned (.tuple #[.agg p, .bool ok]) ∧ Below W.heap.size W w') ∧
      Aside0 (∀ W, Calls Try.prog 14 #[.string s] W fun e w' => e = .returned (.tuple #[.agg p, .bool ok]) ∧ Below W.heap.size W w') ∧ (∀ W, (Op.equalIn 10000 23 (.agg p) (.agg p)).run Try.prog W = .ok true W) ∧ p.size = 32 ∧ p.all (·.oneCell') = true :=
    ⟨_, _, ⟨fun W => parse_any s W⟩, ⟨fun W => refParse_any s W (by omega)⟩, fun W => by
      have := eq32 W (parseB (bytesOf s)) (parseB (bytesOf s)) HPL.out HPL.out
      rw [decide_eq_true rfl] at this
      exact this, by rw [cellsN_size, HPL.out], cellsN_one _⟩
  have HPS := Aside0.mk hps
  have HP1 := Aside0.mk hp1
  have HSA := Aside0.mk (show (Try.prog.info? 23).map (·.size) = some p.size by rw [size23, hps])
  have HSB := Aside0.mk (show (Try.prog.info? 22).map (·.size) = some p.size by rw [size22, hps])
  have HSC := Aside0.mk (show (Try.prog.info? 23).map (·.size) = some p.toList.length by rw [size23, Array.length_toList, hps])
  have HSD := Aside0.mk (show (Try.prog.info? 22).map (·.size) = some p.toList.length by rw [size22, Array.length_toList, hps])
  clear hps hp1
  go_wp2_with (first
    | (go_at_call 13; refine (HP.out _).mono ?_; rintro e w4 ⟨rfl, hb⟩; have HB4 := Aside0.mk (below_step HB.out hb); clear hb)
    | (go_at_call 14; refine (HQ.out _).mono ?_; rintro e w5 ⟨rfl, hb⟩; have HRA := Aside0.mk (range_below (below_alloc hb (.cells p 22)) (by simp) (range_cs (heap_alloc_new w4 _))); have HB5 := Aside0.mk (below_step (below_alloc HB4.out _) hb); clear hb)
    | ((with_reducible refine arm_store_new (ty := 23) (x := .tmp 5) (y := .tmp 21) (c' := p) ?_ ?_ HSA.out ?_ HP1.out ?_); rfl; rfl; exact (Eq.trans (b := 32) rfl HPS.out.symm))
    | ((with_reducible refine arm_store_new (ty := 22) (x := .tmp 7) (y := .tmp 26) (c' := p) ?_ ?_ HSB.out ?_ HP1.out ?_); rfl; rfl; exact (Eq.trans (b := 32) rfl HPS.out.symm))
    | ((with_reducible refine arm_load (ty := 23) (x := .tmp 5) (b := w4.heap.size) (cs := p) ?_ ?_ HRA.out h23 HSA.out ?_); rfl; rfl)
    | ((with_reducible refine arm_load (ty := 22) (x := .tmp 7) (b := w5.heap.size) (cs := p) ?_ ?_ ?_ h22 HSB.out ?_); rfl; rfl; exact range_cs (heap_alloc_new w5 _)))
  go_ret
  exact ⟨rfl, below_alloc HB5.out _⟩
theorem ShaHex_walk (b0 : List Value) (l0 : List Int) (s1 : ByteArray) (w : World) (ha0 : Arr 32 b0.toArray l0) (hw0 : ∀ x ∈ l0, (Lit.int .u8 x).wf = true) (hs1 : s1.size ≤ 140737488351232) :
    Calls Try.prog 3 #[.agg b0.toArray, .string s1] w fun e w' => e = .returned (.bool true) ∧ Below w.heap.size w w' := ShaHex_any b0.toArray l0 s1 w ha0 hs1
end Go.Proofs.Ytcpcellocnojcaa

import Derived.Test.YtighpoelpedneaaGetId
namespace Go.Proofs.Ytighpoelpedneaa
open Go Go.RowKit Go.Proofs.YtighpoelpedneaaW.PrintWords
set_option linter.unusedVariables false
set_option linter.unusedSimpArgs false

theorem Rd.on {w0 w W : World} {g : Nat} {l : List Int} {bad : Bool} (h : Rd w0 w g l bad) (k : Below w.heap.size w W) : Rd w0 W g l bad := by
  obtain ⟨⟨A, c, hb, hC, hc, hn⟩, h2, h3⟩ := h
  exact ⟨⟨A, c, (k.block g (blk_lt hb)).trans hb, Kd.C_below hC k, hc, hn⟩, h2, below_weaken h3 h3.size k⟩

theorem enter35 (vs : Array Value) (W : World) : (callFunc 35 vs).run Try.prog W = .ok (.enter 35 vs) W := enter_of Try.func35 (by rfl) (by decide +kernel) vs W
theorem enter36 (vs : Array Value) (W : World) : (callFunc 36 vs).run Try.prog W = .ok (.enter 36 vs) W := enter_of Try.func36 (by rfl) (by decide +kernel) vs W
theorem enter37 (vs : Array Value) (W : World) : (callFunc 37 vs).run Try.prog W = .ok (.enter 37 vs) W := enter_of Try.func37 (by rfl) (by decide +kernel) vs W
theorem enter38 (vs : Array Value) (W : World) : (callFunc 38 vs).run Try.prog W = .ok (.enter 38 vs) W := enter_of Try.func38 (by rfl) (by decide +kernel) vs W
theorem good_v (w0 w : World) (g : Nat) (l : List Int) (bad : Bool) (h : Rd w0 w g l bad) : Calls Try.prog 35 #[.pointer (some ⟨g, 0, none⟩)] w fun e w' => ∃ u, e = .returned u ∧ u = .bool (!bad) ∧ w = w' :=
  (good_any w0 w g l bad h).mono fun _ _ ⟨he, hw⟩ => ⟨_, he, rfl, hw⟩
theorem left_v (w0 w : World) (g : Nat) (l : List Int) (bad : Bool) (h : Rd w0 w g l bad) : Calls Try.prog 36 #[.pointer (some ⟨g, 0, none⟩)] w fun e w' => ∃ u, e = .returned u ∧ u = .int .i64 l.length ∧ w = w' :=
  (left_any w0 w g l bad h).mono fun _ _ ⟨he, hw⟩ => ⟨_, he, rfl, hw⟩
theorem done_v (w0 w : World) (g : Nat) (l : List Int) (bad : Bool) (h : Rd w0 w g l bad) : Calls Try.prog 37 #[.pointer (some ⟨g, 0, none⟩)] w fun e w' => ∃ u, e = .returned u ∧ u = .bool (!bad && l.isEmpty) ∧ w = w' :=
  (done_any w0 w g l bad h).mono fun _ _ ⟨he, hw⟩ => ⟨_, he, rfl, hw⟩
theorem inDone_v (A : Option Addr) (n c : Nat) (bad : Bool) (w : World) : Calls Try.prog 38 #[.agg #[.slice A n c, .bool bad]] w fun e w' => ∃ u, e = .returned u ∧ u = .bool (!bad && decide (n = 0)) ∧ Below w.heap.size w w' :=
  (inDone_any A n c bad w).mono fun _ _ ⟨he, hw⟩ => ⟨_, he, rfl, hw⟩
theorem text_bytes (most : Int) (l : List Int) (bad : Bool) (hB : Bytes l) : Bytes (textR most l bad).2.1 := by
  unfold textR
  split
  · intro x hx; cases hx
  · intro x hx; exact (numR_facts most l bad hB).1 x (List.mem_of_mem_drop hx)
theorem four_bytes (l : List Int) (bad : Bool) (hB : Bytes l) : Bytes (fourR l bad).2.1 := by
  unfold fourR
  split
  · intro x hx; cases hx
  · intro x hx; exact hB x (List.mem_of_mem_drop hx)
theorem id_bytes (l : List Int) (bad : Bool) (hB : Bytes l) : Bytes (idR l bad).2.1 := by
  unfold idR
  split
  · intro x hx; cases hx
  · intro x hx; exact hB x (List.mem_of_mem_drop hx)
theorem id_world {w w4 : World} {g gx : Nat} {l : List Int} {bad : Bool} {old : Array Value} (hR : Rd w w4 g l bad) (hg : g < gx) (hgx : w4.heap[gx]? = some (.cells old 46 (0, 0))) (ho : old.size = 2) (Z P : Array Value) (hz : Z.size = P.size) (x y x0 y0 : Value) :
    ∀ W8, (((((w4.alloc (.cells Z 31)).alloc (.cells #[x0, y0] 46)).setCells w4.heap.size 0 P.toList).setCells (w4.heap.size + 1) 0 [x, y]).setCells gx 0 [x, y]) = W8 →
      Rd w W8 g l bad ∧ W8.heap[gx]? = some (.cells #[x, y] 46 (0, 0)) ∧ W8.heap[w4.heap.size]? = some (.cells P 31 (0, 0)) := by
  rintro W8 rfl
  have hl := blk_lt hgx
  refine ⟨((((hR.alloc _).alloc _).setCells (by omega) _).setCells (by omega) _).setCells hg _, ?_, ?_⟩
  · have h1 : ((((w4.alloc (.cells Z 31)).alloc (.cells #[x0, y0] 46)).setCells w4.heap.size 0 P.toList).setCells (w4.heap.size + 1) 0 [x, y]).heap[gx]? = some (.cells old 46 (0, 0)) :=
      (setCells_other (by omega)).trans ((setCells_other (by omega)).trans ((Below.heap_alloc _ _ _ (by simp; omega)).trans ((Below.heap_alloc _ _ _ hl).trans hgx)))
    exact setCells_row h1 [x, y] (by simp [ho])
  · have h1 := setCells_row (heap_alloc2_old w4 (.cells Z 31) (.cells #[x0, y0] 46)) P.toList (by rw [Array.length_toList, hz])
    rw [Array.toArray_toList (xs := P)] at h1
    exact (setCells_other (by omega)).trans ((setCells_other (by omega)).trans h1)
theorem id_len (l : List Int) (bad : Bool) : (idR l bad).1.length = 32 := by
  unfold idR
  split
  · rfl
  · rename_i h
    rw [List.length_take]; omega
theorem enter31 (vs : Array Value) (W : World) : (callFunc 31 vs).run Try.prog W = .ok (.enter 31 vs) W := enter_of Try.func31 (by rfl) (by decide +kernel) vs W
theorem Rd.bel {w0 w : World} {g : Nat} {l : List Int} {bad : Bool} (h : Rd w0 w g l bad) : Below w0.heap.size w0 w := h.3

set_option maxHeartbeats 8000000 in
set_option maxRecDepth 20000 in
theorem EncReads_walk (A0 : Option Addr) (c0 : Nat) (l0 : List Int) (A1 : Option Addr) (c1 : Nat) (l1 : List Int) (x2 : Int) (w : World) (hr0 : Kd.C (Kd.int .u8) w A0 l0.length l0) (hc0 : l0.length ≤ c0) (hw0 : ∀ x ∈ l0, (Lit.int .u8 x).wf = true) (hb0 : l0.length * 1 ≤ 140737488351232)
    (hr1 : Kd.C (Kd.int .i64) w A1 l1.length l1) (hc1 : l1.length ≤ c1) (hw1 : ∀ x ∈ l1, (Lit.int .i64 x).wf = true) (hb1 : l1.length * 8 ≤ 140737488351232) (hw2 : (Lit.int .i64 x2).wf = true) :
    Calls Try.prog 7 #[.slice A0 l0.length c0, .slice A1 l1.length c1, .int .i64 x2] w fun e w' => e = .returned (.bool true) ∧ Below w.heap.size w w' := by
  have HC0 := Aside0.mk hr0
  have HC1 := Aside0.mk hr1
  have HCC := Aside0.mk hc0
  have HBY := Aside0.mk (show Bytes l0 from fun b hb => wf_u8 (hw0 b hb))
  have H0 := Aside0.mk hb0
  clear hr0 hr1 hc0 hc1 hw0 hw1 hb0 hb1
  go_enter Try.func7, Try.ntmps7
  go_wp2_with (first
    | (go_at_call 24; (with_reducible refine (read_any A0 c0 l0 _ HC0.out (by have := H0.out; omega)).mono ?_); rintro e w2 ⟨g, rfl, hr, hb⟩; have HR2 := Aside0.mk hr; have HB2 := Aside0.mk hb; clear hr hb)
    | (go_at_call 25; (with_reducible refine (reading_any _).mono ?_); rintro e w3 ⟨rfl, hb⟩; have HR3 := Aside0.mk (HR2.out.on hb); clear hb))
  have HGL := Aside0.mk (show g < w3.heap.size by obtain ⟨⟨A, c, hb, _⟩, _⟩ := HR3.out; exact blk_lt hb)
  have HR4 := Aside0.mk (HR3.out.alloc (.cells #[.slice A0 l0.length c0, .bool false] 46))
  have HX4 := Aside0.mk (heap_alloc_new w3 (.cells #[.slice A0 l0.length c0, .bool false] 46))
  go_loopw [31] (fun v wr => ∃ (k : Nat) (l : List Int) (bad : Bool) (A : Option Addr) (c : Nat), v = .int .i64 k ∧ k ≤ l1.length ∧ Aside0 (Rd w wr g l bad) ∧ Aside0 (wr.heap[w3.heap.size]? = some (.cells #[.slice A l.length c, .bool bad] 46 (0, 0))) ∧
    Aside0 ((Kd.int .u8).C w A l.length l) ∧ Aside0 (l.length ≤ c) ∧ Aside0 (Bytes l)) (fun v wr => (l1.length - intOf v).toNat)
  case atStart => exact ⟨0, l0, false, A0, c0, rfl, by omega, HR4, HX4, HC0, HCC, HBY⟩
  case round =>
    clear HR4 HX4 HR3 HR2 HB2 HC0 HCC HBY H0
    obtain ⟨k, l, bad, A, c, rfl, hk, HR, HX, HC, HCC, HBY⟩ := hrel
    have HBw := Aside0.mk (show Below w.heap.size w wr from HR.out.bel)
    by_cases hlt : k < l1.length
    · obtain ⟨ad, hA, hx⟩ := at_nat (Kd.C_below HC1.out HBw.out) k hlt
      subst hA
      obtain ⟨x, hxx⟩ : ∃ x, rd l1 k = x := ⟨_, rfl⟩
      rw [hxx] at hx
      clear hxx
      have hx0 : wr.cell? ⟨w3.heap.size, 0, none⟩ = some (.slice A l.length c) := cell_of_row wr w3.heap.size 0 #[.slice A l.length c, .bool bad] 46 (0, 0) HX.out
      have hx1 : wr.cell? ⟨w3.heap.size, 1, none⟩ = some (.bool bad) := cell_of_row wr w3.heap.size 1 #[.slice A l.length c, .bool bad] 46 (0, 0) HX.out
      by_cases h100 : (100 : Int) ≤ (k : Int)
      · go_wp2
        go_ret
        exact ⟨rfl, HBw.out⟩
      · by_cases hc0 : x = 0
        · subst hc0
          have HF := Aside0.mk (numR_facts x2 l bad HBY.out)
          have HK := Aside0.mk (getNum_any w wr A c l bad x2 HC.out HCC.out HBY.out HBw.out hw2)
          have HKR := Aside0.mk (fun W h => rdNum_any w W g l bad x2 h HBY.out hw2)
          generalize numR x2 l bad = r at *
          obtain ⟨n, l', b'⟩ := r
          have HK := Aside0.mk (show Calls Try.prog 26 #[.agg #[.slice A l.length c, .bool bad], .int .i64 x2] wr (fun e w' => ∃ A' c', e = .returned (.tuple #[.int .i64 n, .agg #[.slice A' l'.length c', .bool b']]) ∧ (Kd.int .u8).C w A' l'.length l' ∧ l'.length ≤ c' ∧ Below wr.heap.size wr w') from HK.out.mono fun e w' ⟨v', he, ⟨A', c', hv, hC', hc'⟩, hb⟩ => ⟨A', c', by rw [he, hv], hC', hc', hb⟩)
          have HSZ := fun A' c' => (show (Try.prog.info? 46).map (·.size) = some (#[.slice A' l'.length c', .bool b'] : Array Value).size from size46)
          have HONE := fun A' c' => (show (#[.slice A' l'.length c', .bool b'] : Array Value).all (·.oneCell') = true by simp [Value.oneCell'])
          have HSZ := Aside0.mk HSZ
          have HONE := Aside0.mk HONE
          go_wp2_with (first
            | (go_at_call 26; (with_reducible refine HK.out.mono ?_); rintro e w4 ⟨A', c', rfl, hC', hc', hb4⟩; have HC' := Aside0.mk hC'; have HCC' := Aside0.mk hc'; have HB4 := Aside0.mk hb4; have HR4 := Aside0.mk ((HR.out.on hb4).alloc (.cells #[.slice A' l'.length c', .bool b'] 46)); have HX4 := Aside0.mk (((below_alloc hb4 (.cells #[.slice A' l'.length c', .bool b'] 46)).block _ (blk_lt HX.out)).trans HX.out); clear hC' hc' hb4)
            | ((with_reducible refine arm_store (ty := 46) (x := .tmp 8) (b := w3.heap.size) (c' := #[.slice A' l'.length c', .bool b']) ?_ ?_ ?_ (HSZ.out A' c') (HONE.out A' c') ?_); rfl; rfl; exact there_cs HX4.out rfl)
            | (go_at_call 27; (with_reducible refine (HKR.out _ (HR4.out.setCells HGL.out _)).mono ?_); rintro e w6 ⟨rfl, hr6, hg6⟩; have HR6 := Aside0.mk (show Rd w w6 g l' b' from hr6); have HX6 := Aside0.mk ((hg6.block _ (blk_lt (setCells_row HX4.out [.slice A' l'.length c', .bool b'] rfl)) (fun e => by injection e with e; have := HGL.out; omega)).trans (setCells_row HX4.out [.slice A' l'.length c', .bool b'] rfl)); clear hr6 hg6))
          have HBN := Aside0.mk (show Bytes l' from HF.out.1)
          go_wp2_with fail
          have HBB := Aside0.mk (show (!b' == b') = false by cases b' <;> rfl)
          have HDD := Aside0.mk (show (!b' && l'.isEmpty) = (!b' && decide (l'.length = 0)) by cases l' <;> simp)
          have HR7 := Aside0.mk (HR6.out.drew)
          have HX7 := Aside0.mk (show w6.drew.heap[w3.heap.size]? = _ from HX6.out)
          refine wp_region_noPanic ?_
          refine wp_region_held_drew (S := (fun W => W.heap[w3.heap.size]? = some (.cells #[.slice A' l'.length c', .bool b'] 46 (0, 0)))) (by kernel_rfl) ?_ (fun hHeld => ?_)
          · exact HX7.out
          refine wpAnyH_take (i := 0) (oi := { dst := some 94, op := Go.Op.move (Go.Operand.tmp 7), type := 43, pos := "law.go:84", after := #[], guard := none }) (v := ?_) rfl (by kernel_rfl) (by kernel_rfl) (by kernel_rfl) (fun _ _ _ h => h) (Or.inl ⟨by rfl, ?_⟩) hHeld ?_
          rotate_left
          · intro w hSw; go_simp; with_reducible rfl
          try simp only [Act.put, List.setIfInBounds_toArray, List.set_cons_zero, List.set_cons_succ]
          refine wpAnyH_take (i := 2) (oi := { dst := some 96, op := Go.Op.fieldAddr 46 (Go.Operand.tmp 8) 1, type := 0, pos := "law.go:84", after := #[], guard := none }) (v := ?_) rfl (by kernel_rfl) (by kernel_rfl) (by kernel_rfl) (fun _ _ _ h => h) (Or.inl ⟨by rfl, ?_⟩) hHeld ?_
          rotate_left
          · intro w hSw; go_simp; with_reducible rfl
          try simp only [Act.put, List.setIfInBounds_toArray, List.set_cons_zero, List.set_cons_succ]
          refine wpAnyH_take (i := 3) (oi := { dst := some 97, op := Go.Op.load 4 (Go.Operand.tmp 96), type := 4, pos := "law.go:84", after := #[{ on := 2, ground := Go.Ground.data }], guard := none }) (v := _) rfl (by kernel_rfl) (by kernel_rfl) (by kernel_rfl) (fun _ _ _ h => h) ((show YieldsIf _ _ _ _ (.bool b') _ from Or.inl ⟨by rfl, fun w hSw => by have hc := cell_of_row w w3.heap.size 1 #[.slice A' l'.length c', .bool b'] 46 (0, 0) hSw; simp at hc; go_simp⟩)) hHeld ?_
          try simp only [Act.put, List.setIfInBounds_toArray, List.set_cons_zero, List.set_cons_succ]
          refine wpAnyH_ready (rs := [1]) (by kernel_rfl) (by simp) ?_
          refine AllReadyH.cons (o := { dst := some 95, op := Go.Op.call { callee := Go.Callee.value (Go.Operand.func 35), args := #[Go.Operand.tmp 94], argTypes := #[43] }, type := 4, pos := "law.go:84", after := #[{ on := 0, ground := Go.Ground.data }], guard := none }) rfl (fun K hK => ?_) AllReadyH.nil
          refine step_call1 (f := 35) (x := .tmp 94) (v := .pointer (some ⟨g, 0, none⟩)) (by rfl) rfl rfl enter35 (good_v w _ g l' b' HR7.out) ?_
          rintro u1 y1 ⟨rfl, rfl⟩
          refine hK.out _ _ (HX7.out) (fun hHeld => ?_)
          clear hK K
          try simp only [Act.put, List.setIfInBounds_toArray, List.set_cons_zero, List.set_cons_succ]
          refine wpAnyH_take (i := 4) (oi := { dst := some 98, op := Go.Op.binOp Go.BinOp.eql 4 (Go.Operand.tmp 95) (Go.Operand.tmp 97) 4, type := 4, pos := "law.go:84", after := #[{ on := 1, ground := Go.Ground.data }, { on := 3, ground := Go.Ground.data }], guard := none }) (v := _) rfl (by kernel_rfl) (by kernel_rfl) (by kernel_rfl) (fun _ _ _ h => h) ((show YieldsIf _ _ _ _ (.bool false) _ from Or.inl ⟨by rfl, fun w hSw => by have hbb := HBB.out; go_simp; try simp only [hbb]⟩)) hHeld ?_
          try simp only [Act.put, List.setIfInBounds_toArray, List.set_cons_zero, List.set_cons_succ]
          refine wpAnyH_take (i := 5) (oi := { dst := some 99, op := Go.Op.move (Go.Operand.tmp 98), type := 4, pos := "law.go:84", after := #[{ on := 4, ground := Go.Ground.data }, { on := 1, ground := Go.Ground.chain }], guard := none }) (v := ?_) rfl (by kernel_rfl) (by kernel_rfl) (by kernel_rfl) (fun _ _ _ h => h) (Or.inl ⟨by rfl, ?_⟩) hHeld ?_
          rotate_left
          · intro w hSw; go_simp; with_reducible rfl
          try simp only [Act.put, List.setIfInBounds_toArray, List.set_cons_zero, List.set_cons_succ]
          refine wpAnyH_take (i := 6) (oi := { dst := some 100, op := Go.Op.move (Go.Operand.tmp 7), type := 43, pos := "law.go:84", after := #[{ on := 5, ground := Go.Ground.guard }], guard := some (5, false) }) (v := ?_) rfl (by kernel_rfl) (by kernel_rfl) (by kernel_rfl) (fun _ _ _ h => h) (Or.inl ⟨by rfl, ?_⟩) hHeld ?_
          rotate_left
          · intro w hSw; go_simp; with_reducible rfl
          try simp only [Act.put, List.setIfInBounds_toArray, List.set_cons_zero, List.set_cons_succ]
          refine wpAnyH_take (i := 8) (oi := { dst := some 102, op := Go.Op.fieldAddr 46 (Go.Operand.tmp 8) 0, type := 0, pos := "law.go:84", after := #[{ on := 5, ground := Go.Ground.guard }], guard := some (5, false) }) (v := ?_) rfl (by kernel_rfl) (by kernel_rfl) (by kernel_rfl) (fun _ _ _ h => h) (Or.inl ⟨by rfl, ?_⟩) hHeld ?_
          rotate_left
          · intro w hSw; go_simp; with_reducible rfl
          try simp only [Act.put, List.setIfInBounds_toArray, List.set_cons_zero, List.set_cons_succ]
          refine wpAnyH_take (i := 9) (oi := { dst := some 103, op := Go.Op.load 22 (Go.Operand.tmp 102), type := 22, pos := "law.go:84", after := #[{ on := 8, ground := Go.Ground.data }, { on := 5, ground := Go.Ground.guard }], guard := some (5, false) }) (v := _) rfl (by kernel_rfl) (by kernel_rfl) (by kernel_rfl) (fun _ _ _ h => h) ((show YieldsIf _ _ _ _ (.slice A' l'.length c') _ from Or.inl ⟨by rfl, fun w hSw => by have hc := cell_of_row w w3.heap.size 0 #[.slice A' l'.length c', .bool b'] 46 (0, 0) hSw; simp at hc; go_simp⟩)) hHeld ?_
          try simp only [Act.put, List.setIfInBounds_toArray, List.set_cons_zero, List.set_cons_succ]
          refine wpAnyH_take (i := 10) (oi := { dst := some 104, op := Go.Op.call { callee := Go.Callee.builtin Go.Builtin.len, args := #[Go.Operand.tmp 103], argTypes := #[22] }, type := 3, pos := "law.go:84", after := #[{ on := 9, ground := Go.Ground.data }, { on := 5, ground := Go.Ground.guard }], guard := some (5, false) }) (v := ?_) rfl (by kernel_rfl) (by kernel_rfl) (by kernel_rfl) (fun _ _ _ h => h) (Or.inl ⟨by rfl, ?_⟩) hHeld ?_
          rotate_left
          · intro w hSw; go_simp; with_reducible rfl
          try simp only [Act.put, List.setIfInBounds_toArray, List.set_cons_zero, List.set_cons_succ]
          refine wpAnyH_ready (rs := [7]) (by kernel_rfl) (by simp) ?_
          refine AllReadyH.cons (o := { dst := some 101, op := Go.Op.call { callee := Go.Callee.value (Go.Operand.func 36), args := #[Go.Operand.tmp 100], argTypes := #[43] }, type := 3, pos := "law.go:84", after := #[{ on := 6, ground := Go.Ground.data }, { on := 5, ground := Go.Ground.chain }, { on := 5, ground := Go.Ground.guard }], guard := some (5, false) }) rfl (fun K hK => ?_) AllReadyH.nil
          refine step_call1 (f := 36) (x := .tmp 100) (v := .pointer (some ⟨g, 0, none⟩)) (by rfl) rfl rfl enter36 (left_v w _ g l' b' HR7.out) ?_
          rintro u2 y2 ⟨rfl, rfl⟩
          refine hK.out _ _ (HX7.out) (fun hHeld => ?_)
          clear hK K
          try simp only [Act.put, List.setIfInBounds_toArray, List.set_cons_zero, List.set_cons_succ]
          refine wpAnyH_take (i := 11) (oi := { dst := some 105, op := Go.Op.binOp Go.BinOp.neq 3 (Go.Operand.tmp 101) (Go.Operand.tmp 104) 3, type := 4, pos := "law.go:84", after := #[{ on := 7, ground := Go.Ground.data }, { on := 10, ground := Go.Ground.data }, { on := 5, ground := Go.Ground.guard }], guard := some (5, false) }) (v := _) rfl (by kernel_rfl) (by kernel_rfl) (by kernel_rfl) (fun _ _ _ h => h) ((show YieldsIf _ _ _ _ (.bool false) _ from Or.inl ⟨by rfl, fun w hSw => by go_simp⟩)) hHeld ?_
          try simp only [Act.put, List.setIfInBounds_toArray, List.set_cons_zero, List.set_cons_succ]
          refine wpAnyH_take (i := 12) (oi := { dst := some 106, op := Go.Op.pick (Go.Operand.tmp 99) (Go.Operand.const (Go.Value.bool true)) (Go.Operand.tmp 105), type := 4, pos := "law.go:84", after := #[{ on := 5, ground := Go.Ground.data }, { on := 11, ground := Go.Ground.data }], guard := none }) (v := ?_) rfl (by kernel_rfl) (by kernel_rfl) (by kernel_rfl) (fun _ _ _ h => h) (Or.inl ⟨by rfl, ?_⟩) hHeld ?_
          rotate_left
          · intro w hSw; go_simp; with_reducible rfl
          try simp only [Act.put, List.setIfInBounds_toArray, List.set_cons_zero, List.set_cons_succ]
          refine wpAnyH_take (i := 13) (oi := { dst := some 107, op := Go.Op.move (Go.Operand.tmp 106), type := 4, pos := "law.go:84", after := #[{ on := 12, ground := Go.Ground.data }, { on := 7, ground := Go.Ground.chain }], guard := none }) (v := ?_) rfl (by kernel_rfl) (by kernel_rfl) (by kernel_rfl) (fun _ _ _ h => h) (Or.inl ⟨by rfl, ?_⟩) hHeld ?_
          rotate_left
          · intro w hSw; go_simp; with_reducible rfl
          try simp only [Act.put, List.setIfInBounds_toArray, List.set_cons_zero, List.set_cons_succ]
          refine wpAnyH_take (i := 14) (oi := { dst := some 108, op := Go.Op.move (Go.Operand.tmp 7), type := 43, pos := "law.go:84", after := #[{ on := 13, ground := Go.Ground.guard }], guard := some (13, false) }) (v := ?_) rfl (by kernel_rfl) (by kernel_rfl) (by kernel_rfl) (fun _ _ _ h => h) (Or.inl ⟨by rfl, ?_⟩) hHeld ?_
          rotate_left
          · intro w hSw; go_simp; with_reducible rfl
          try simp only [Act.put, List.setIfInBounds_toArray, List.set_cons_zero, List.set_cons_succ]
          refine wpAnyH_take (i := 16) (oi := { dst := some 110, op := Go.Op.load 46 (Go.Operand.tmp 8), type := 46, pos := "law.go:84", after := #[{ on := 13, ground := Go.Ground.guard }], guard := some (13, false) }) (v := _) rfl (by kernel_rfl) (by kernel_rfl) (by kernel_rfl) (fun _ _ _ h => h) (yieldsIf_load_mid (by rfl) 46 (.tmp 8) rfl w3.heap.size 0 rfl [.slice A' l'.length c', .bool b'] _ (fun _ h => range_cs h) Try.underlying46 rfl size46) hHeld ?_
          try simp only [Act.put, List.setIfInBounds_toArray, List.set_cons_zero, List.set_cons_succ]
          refine wpAnyH_ready (rs := [15]) (by kernel_rfl) (by simp) ?_
          refine AllReadyH.cons (o := { dst := some 109, op := Go.Op.call { callee := Go.Callee.value (Go.Operand.func 37), args := #[Go.Operand.tmp 108], argTypes := #[43] }, type := 4, pos := "law.go:84", after := #[{ on := 14, ground := Go.Ground.data }, { on := 13, ground := Go.Ground.chain }, { on := 13, ground := Go.Ground.guard }], guard := some (13, false) }) rfl (fun K hK => ?_) AllReadyH.nil
          refine step_call1 (f := 37) (x := .tmp 108) (v := .pointer (some ⟨g, 0, none⟩)) (by rfl) rfl rfl enter37 (done_v w _ g l' b' HR7.out) ?_
          rintro u3 y3 ⟨rfl, rfl⟩
          refine hK.out _ _ (HX7.out) (fun hHeld => ?_)
          clear hK K
          try simp only [Act.put, List.setIfInBounds_toArray, List.set_cons_zero, List.set_cons_succ]
          refine wpAnyH_ready (rs := [17]) (by kernel_rfl) (by simp) ?_
          refine AllReadyH.cons (o := { dst := some 111, op := Go.Op.call { callee := Go.Callee.value (Go.Operand.func 38), args := #[Go.Operand.tmp 110], argTypes := #[46] }, type := 4, pos := "law.go:84", after := #[{ on := 16, ground := Go.Ground.data }, { on := 15, ground := Go.Ground.chain }, { on := 13, ground := Go.Ground.guard }], guard := some (13, false) }) rfl (fun K hK => ?_) AllReadyH.nil
          refine step_call1 (f := 38) (x := .tmp 110) (v := .agg #[.slice A' l'.length c', .bool b']) (by rfl) rfl rfl enter38 (inDone_v A' l'.length c' b' _) ?_
          rintro u4 y4 ⟨rfl, hb8⟩
          have HR7 := Aside0.mk (HR7.out.on hb8)
          have HX7 := Aside0.mk ((hb8.block _ (blk_lt HX7.out)).trans HX7.out)
          clear hb8
          refine hK.out _ _ (HX7.out) (fun hHeld => ?_)
          clear hK K
          try simp only [Act.put, List.setIfInBounds_toArray, List.set_cons_zero, List.set_cons_succ]
          refine wpAnyH_take (i := 18) (oi := { dst := some 112, op := Go.Op.binOp Go.BinOp.neq 4 (Go.Operand.tmp 109) (Go.Operand.tmp 111) 4, type := 4, pos := "law.go:84", after := #[{ on := 15, ground := Go.Ground.data }, { on := 17, ground := Go.Ground.data }, { on := 13, ground := Go.Ground.guard }], guard := some (13, false) }) (v := _) rfl (by kernel_rfl) (by kernel_rfl) (by kernel_rfl) (fun _ _ _ h => h) ((show YieldsIf _ _ _ _ (.bool false) _ from Or.inl ⟨by rfl, fun w hSw => by have hdd := HDD.out; go_simp; try simp [hdd]⟩)) hHeld ?_
          try simp only [Act.put, List.setIfInBounds_toArray, List.set_cons_zero, List.set_cons_succ]
          refine wpAnyH_take (i := 19) (oi := { dst := some 113, op := Go.Op.pick (Go.Operand.tmp 107) (Go.Operand.const (Go.Value.bool true)) (Go.Operand.tmp 112), type := 4, pos := "law.go:84", after := #[{ on := 13, ground := Go.Ground.data }, { on := 18, ground := Go.Ground.data }], guard := none }) (v := ?_) rfl (by kernel_rfl) (by kernel_rfl) (by kernel_rfl) (fun _ _ _ h => h) (Or.inl ⟨by rfl, ?_⟩) hHeld ?_
          rotate_left
          · intro w hSw; go_simp; with_reducible rfl
          try simp only [Act.put, List.setIfInBounds_toArray, List.set_cons_zero, List.set_cons_succ]
          refine wpAnyH_done (by kernel_rfl) ?_ _
          refine NoPanic.normal ?_
          go_wp2
          go_roundw
          case rel => exact ⟨k + 1, l', b', A', c', by go_num, by omega, HR7, HX7, HC', HCC', HBN⟩
          case measure => simp [intOf]; omega
        · by_cases hc1' : x = 1
          · skip
            subst hc1'
            have HF := Aside0.mk (text_bytes 40 l bad HBY.out)
            have HK := Aside0.mk (getText_any w wr A c l bad 40 HC.out HCC.out HBY.out HBw.out (by decide))
            have HKR := Aside0.mk (fun W h => rdText_any w W g l bad 40 h HBY.out (by decide))
            generalize textR 40 l bad = r at *
            obtain ⟨n, l', b'⟩ := r
            have HK := Aside0.mk (show Calls Try.prog 28 #[.agg #[.slice A l.length c, .bool bad], .int .i64 40] wr (fun e w' => ∃ A' c', e = .returned (.tuple #[.string (strOfNums n), .agg #[.slice A' l'.length c', .bool b']]) ∧ (Kd.int .u8).C w A' l'.length l' ∧ l'.length ≤ c' ∧ Below wr.heap.size wr w') from HK.out.mono fun e w' ⟨v', he, ⟨A', c', hv, hC', hc'⟩, hb⟩ => ⟨A', c', by rw [he, hv], hC', hc', hb⟩)
            have HSZ := Aside0.mk (fun A' c' => (show (Try.prog.info? 46).map (·.size) = some (#[.slice A' l'.length c', .bool b'] : Array Value).size from size46))
            have HONE := Aside0.mk (fun A' c' => (show (#[.slice A' l'.length c', .bool b'] : Array Value).all (·.oneCell') = true by simp [Value.oneCell']))
            go_wp2_with (first
              | (go_at_call 28; (with_reducible refine HK.out.mono ?_); rintro e w4 ⟨A', c', rfl, hC', hc', hb4⟩; have HC' := Aside0.mk hC'; have HCC' := Aside0.mk hc'; have HB4 := Aside0.mk hb4; have HR4 := Aside0.mk ((HR.out.on hb4).alloc (.cells #[.slice A' l'.length c', .bool b'] 46)); have HX4 := Aside0.mk (((below_alloc hb4 (.cells #[.slice A' l'.length c', .bool b'] 46)).block _ (blk_lt HX.out)).trans HX.out); clear hC' hc' hb4)
              | ((with_reducible refine arm_store (ty := 46) (x := .tmp 8) (b := w3.heap.size) (c' := #[.slice A' l'.length c', .bool b']) ?_ ?_ ?_ (HSZ.out A' c') (HONE.out A' c') ?_); rfl; rfl; exact there_cs HX4.out rfl)
              | (go_at_call 29; (with_reducible refine (HKR.out _ (HR4.out.setCells HGL.out _)).mono ?_); rintro e w6 ⟨rfl, hr6, hg6⟩; have HR6 := Aside0.mk (show Rd w w6 g l' b' from hr6); have HX6 := Aside0.mk ((hg6.block _ (blk_lt (setCells_row HX4.out [.slice A' l'.length c', .bool b'] rfl)) (fun e => by injection e with e; have := HGL.out; omega)).trans (setCells_row HX4.out [.slice A' l'.length c', .bool b'] rfl)); clear hr6 hg6))
            have HBN := Aside0.mk (show Bytes l' from HF.out)
            go_wp2_with fail
            have HBB := Aside0.mk (show (!b' == b') = false by cases b' <;> rfl)
            have HDD := Aside0.mk (show (!b' && l'.isEmpty) = (!b' && decide (l'.length = 0)) by cases l' <;> simp)
            have HR7 := Aside0.mk (HR6.out.drew)
            have HX7 := Aside0.mk (show w6.drew.heap[w3.heap.size]? = _ from HX6.out)
            refine wp_region_noPanic ?_
            refine wp_region_held_drew (S := (fun W => W.heap[w3.heap.size]? = some (.cells #[.slice A' l'.length c', .bool b'] 46 (0, 0)))) (by kernel_rfl) ?_ (fun hHeld => ?_)
            · exact HX7.out
            refine wpAnyH_take (i := 0) (oi := { dst := some 94, op := Go.Op.move (Go.Operand.tmp 7), type := 43, pos := "law.go:84", after := #[], guard := none }) (v := ?_) rfl (by kernel_rfl) (by kernel_rfl) (by kernel_rfl) (fun _ _ _ h => h) (Or.inl ⟨by rfl, ?_⟩) hHeld ?_
            rotate_left
            · intro w hSw; go_simp; with_reducible rfl
            try simp only [Act.put, List.setIfInBounds_toArray, List.set_cons_zero, List.set_cons_succ]
            refine wpAnyH_take (i := 2) (oi := { dst := some 96, op := Go.Op.fieldAddr 46 (Go.Operand.tmp 8) 1, type := 0, pos := "law.go:84", after := #[], guard := none }) (v := ?_) rfl (by kernel_rfl) (by kernel_rfl) (by kernel_rfl) (fun _ _ _ h => h) (Or.inl ⟨by rfl, ?_⟩) hHeld ?_
            rotate_left
            · intro w hSw; go_simp; with_reducible rfl
            try simp only [Act.put, List.setIfInBounds_toArray, List.set_cons_zero, List.set_cons_succ]
            refine wpAnyH_take (i := 3) (oi := { dst := some 97, op := Go.Op.load 4 (Go.Operand.tmp 96), type := 4, pos := "law.go:84", after := #[{ on := 2, ground := Go.Ground.data }], guard := none }) (v := _) rfl (by kernel_rfl) (by kernel_rfl) (by kernel_rfl) (fun _ _ _ h => h) ((show YieldsIf _ _ _ _ (.bool b') _ from Or.inl ⟨by rfl, fun w hSw => by have hc := cell_of_row w w3.heap.size 1 #[.slice A' l'.length c', .bool b'] 46 (0, 0) hSw; simp at hc; go_simp⟩)) hHeld ?_
            try simp only [Act.put, List.setIfInBounds_toArray, List.set_cons_zero, List.set_cons_succ]
            refine wpAnyH_ready (rs := [1]) (by kernel_rfl) (by simp) ?_
            refine AllReadyH.cons (o := { dst := some 95, op := Go.Op.call { callee := Go.Callee.value (Go.Operand.func 35), args := #[Go.Operand.tmp 94], argTypes := #[43] }, type := 4, pos := "law.go:84", after := #[{ on := 0, ground := Go.Ground.data }], guard := none }) rfl (fun K hK => ?_) AllReadyH.nil
            refine step_call1 (f := 35) (x := .tmp 94) (v := .pointer (some ⟨g, 0, none⟩)) (by rfl) rfl rfl enter35 (good_v w _ g l' b' HR7.out) ?_
            rintro u1 y1 ⟨rfl, rfl⟩
            refine hK.out _ _ (HX7.out) (fun hHeld => ?_)
            clear hK K
            try simp only [Act.put, List.setIfInBounds_toArray, List.set_cons_zero, List.set_cons_succ]
            refine wpAnyH_take (i := 4) (oi := { dst := some 98, op := Go.Op.binOp Go.BinOp.eql 4 (Go.Operand.tmp 95) (Go.Operand.tmp 97) 4, type := 4, pos := "law.go:84", after := #[{ on := 1, ground := Go.Ground.data }, { on := 3, ground := Go.Ground.data }], guard := none }) (v := _) rfl (by kernel_rfl) (by kernel_rfl) (by kernel_rfl) (fun _ _ _ h => h) ((show YieldsIf _ _ _ _ (.bool false) _ from Or.inl ⟨by rfl, fun w hSw => by have hbb := HBB.out; go_simp; try simp only [hbb]⟩)) hHeld ?_
            try simp only [Act.put, List.setIfInBounds_toArray, List.set_cons_zero, List.set_cons_succ]
            refine wpAnyH_take (i := 5) (oi := { dst := some 99, op := Go.Op.move (Go.Operand.tmp 98), type := 4, pos := "law.go:84", after := #[{ on := 4, ground := Go.Ground.data }, { on := 1, ground := Go.Ground.chain }], guard := none }) (v := ?_) rfl (by kernel_rfl) (by kernel_rfl) (by kernel_rfl) (fun _ _ _ h => h) (Or.inl ⟨by rfl, ?_⟩) hHeld ?_
            rotate_left
            · intro w hSw; go_simp; with_reducible rfl
            try simp only [Act.put, List.setIfInBounds_toArray, List.set_cons_zero, List.set_cons_succ]
            refine wpAnyH_take (i := 6) (oi := { dst := some 100, op := Go.Op.move (Go.Operand.tmp 7), type := 43, pos := "law.go:84", after := #[{ on := 5, ground := Go.Ground.guard }], guard := some (5, false) }) (v := ?_) rfl (by kernel_rfl) (by kernel_rfl) (by kernel_rfl) (fun _ _ _ h => h) (Or.inl ⟨by rfl, ?_⟩) hHeld ?_
            rotate_left
            · intro w hSw; go_simp; with_reducible rfl
            try simp only [Act.put, List.setIfInBounds_toArray, List.set_cons_zero, List.set_cons_succ]
            refine wpAnyH_take (i := 8) (oi := { dst := some 102, op := Go.Op.fieldAddr 46 (Go.Operand.tmp 8) 0, type := 0, pos := "law.go:84", after := #[{ on := 5, ground := Go.Ground.guard }], guard := some (5, false) }) (v := ?_) rfl (by kernel_rfl) (by kernel_rfl) (by kernel_rfl) (fun _ _ _ h => h) (Or.inl ⟨by rfl, ?_⟩) hHeld ?_
            rotate_left
            · intro w hSw; go_simp; with_reducible rfl
            try simp only [Act.put, List.setIfInBounds_toArray, List.set_cons_zero, List.set_cons_succ]
            refine wpAnyH_take (i := 9) (oi := { dst := some 103, op := Go.Op.load 22 (Go.Operand.tmp 102), type := 22, pos := "law.go:84", after := #[{ on := 8, ground := Go.Ground.data }, { on := 5, ground := Go.Ground.guard }], guard := some (5, false) }) (v := _) rfl (by kernel_rfl) (by kernel_rfl) (by kernel_rfl) (fun _ _ _ h => h) ((show YieldsIf _ _ _ _ (.slice A' l'.length c') _ from Or.inl ⟨by rfl, fun w hSw => by have hc := cell_of_row w w3.heap.size 0 #[.slice A' l'.length c', .bool b'] 46 (0, 0) hSw; simp at hc; go_simp⟩)) hHeld ?_
            try simp only [Act.put, List.setIfInBounds_toArray, List.set_cons_zero, List.set_cons_succ]
            refine wpAnyH_take (i := 10) (oi := { dst := some 104, op := Go.Op.call { callee := Go.Callee.builtin Go.Builtin.len, args := #[Go.Operand.tmp 103], argTypes := #[22] }, type := 3, pos := "law.go:84", after := #[{ on := 9, ground := Go.Ground.data }, { on := 5, ground := Go.Ground.guard }], guard := some (5, false) }) (v := ?_) rfl (by kernel_rfl) (by kernel_rfl) (by kernel_rfl) (fun _ _ _ h => h) (Or.inl ⟨by rfl, ?_⟩) hHeld ?_
            rotate_left
            · intro w hSw; go_simp; with_reducible rfl
            try simp only [Act.put, List.setIfInBounds_toArray, List.set_cons_zero, List.set_cons_succ]
            refine wpAnyH_ready (rs := [7]) (by kernel_rfl) (by simp) ?_
            refine AllReadyH.cons (o := { dst := some 101, op := Go.Op.call { callee := Go.Callee.value (Go.Operand.func 36), args := #[Go.Operand.tmp 100], argTypes := #[43] }, type := 3, pos := "law.go:84", after := #[{ on := 6, ground := Go.Ground.data }, { on := 5, ground := Go.Ground.chain }, { on := 5, ground := Go.Ground.guard }], guard := some (5, false) }) rfl (fun K hK => ?_) AllReadyH.nil
            refine step_call1 (f := 36) (x := .tmp 100) (v := .pointer (some ⟨g, 0, none⟩)) (by rfl) rfl rfl enter36 (left_v w _ g l' b' HR7.out) ?_
            rintro u2 y2 ⟨rfl, rfl⟩
            refine hK.out _ _ (HX7.out) (fun hHeld => ?_)
            clear hK K
            try simp only [Act.put, List.setIfInBounds_toArray, List.set_cons_zero, List.set_cons_succ]
            refine wpAnyH_take (i := 11) (oi := { dst := some 105, op := Go.Op.binOp Go.BinOp.neq 3 (Go.Operand.tmp 101) (Go.Operand.tmp 104) 3, type := 4, pos := "law.go:84", after := #[{ on := 7, ground := Go.Ground.data }, { on := 10, ground := Go.Ground.data }, { on := 5, ground := Go.Ground.guard }], guard := some (5, false) }) (v := _) rfl (by kernel_rfl) (by kernel_rfl) (by kernel_rfl) (fun _ _ _ h => h) ((show YieldsIf _ _ _ _ (.bool false) _ from Or.inl ⟨by rfl, fun w hSw => by go_simp⟩)) hHeld ?_
            try simp only [Act.put, List.setIfInBounds_toArray, List.set_cons_zero, List.set_cons_succ]
            refine wpAnyH_take (i := 12) (oi := { dst := some 106, op := Go.Op.pick (Go.Operand.tmp 99) (Go.Operand.const (Go.Value.bool true)) (Go.Operand.tmp 105), type := 4, pos := "law.go:84", after := #[{ on := 5, ground := Go.Ground.data }, { on := 11, ground := Go.Ground.data }], guard := none }) (v := ?_) rfl (by kernel_rfl) (by kernel_rfl) (by kernel_rfl) (fun _ _ _ h => h) (Or.inl ⟨by rfl, ?_⟩) hHeld ?_
            rotate_left
            · intro w hSw; go_simp; with_reducible rfl
            try simp only [Act.put, List.setIfInBounds_toArray, List.set_cons_zero, List.set_cons_succ]
            refine wpAnyH_take (i := 13) (oi := { dst := some 107, op := Go.Op.move (Go.Operand.tmp 106), type := 4, pos := "law.go:84", after := #[{ on := 12, ground := Go.Ground.data }, { on := 7, ground := Go.Ground.chain }], guard := none }) (v := ?_) rfl (by kernel_rfl) (by kernel_rfl) (by kernel_rfl) (fun _ _ _ h => h) (Or.inl ⟨by rfl, ?_⟩) hHeld ?_
            rotate_left
            · intro w hSw; go_simp; with_reducible rfl
            try simp only [Act.put, List.setIfInBounds_toArray, List.set_cons_zero, List.set_cons_succ]
            refine wpAnyH_take (i := 14) (oi := { dst := some 108, op := Go.Op.move (Go.Operand.tmp 7), type := 43, pos := "law.go:84", after := #[{ on := 13, ground := Go.Ground.guard }], guard := some (13, false) }) (v := ?_) rfl (by kernel_rfl) (by kernel_rfl) (by kernel_rfl) (fun _ _ _ h => h) (Or.inl ⟨by rfl, ?_⟩) hHeld ?_
            rotate_left
            · intro w hSw; go_simp; with_reducible rfl
            try simp only [Act.put, List.setIfInBounds_toArray, List.set_cons_zero, List.set_cons_succ]
            refine wpAnyH_take (i := 16) (oi := { dst := some 110, op := Go.Op.load 46 (Go.Operand.tmp 8), type := 46, pos := "law.go:84", after := #[{ on := 13, ground := Go.Ground.guard }], guard := some (13, false) }) (v := _) rfl (by kernel_rfl) (by kernel_rfl) (by kernel_rfl) (fun _ _ _ h => h) (yieldsIf_load_mid (by rfl) 46 (.tmp 8) rfl w3.heap.size 0 rfl [.slice A' l'.length c', .bool b'] _ (fun _ h => range_cs h) Try.underlying46 rfl size46) hHeld ?_
            try simp only [Act.put, List.setIfInBounds_toArray, List.set_cons_zero, List.set_cons_succ]
            refine wpAnyH_ready (rs := [15]) (by kernel_rfl) (by simp) ?_
            refine AllReadyH.cons (o := { dst := some 109, op := Go.Op.call { callee := Go.Callee.value (Go.Operand.func 37), args := #[Go.Operand.tmp 108], argTypes := #[43] }, type := 4, pos := "law.go:84", after := #[{ on := 14, ground := Go.Ground.data }, { on := 13, ground := Go.Ground.chain }, { on := 13, ground := Go.Ground.guard }], guard := some (13, false) }) rfl (fun K hK => ?_) AllReadyH.nil
            refine step_call1 (f := 37) (x := .tmp 108) (v := .pointer (some ⟨g, 0, none⟩)) (by rfl) rfl rfl enter37 (done_v w _ g l' b' HR7.out) ?_
            rintro u3 y3 ⟨rfl, rfl⟩
            refine hK.out _ _ (HX7.out) (fun hHeld => ?_)
            clear hK K
            try simp only [Act.put, List.setIfInBounds_toArray, List.set_cons_zero, List.set_cons_succ]
            refine wpAnyH_ready (rs := [17]) (by kernel_rfl) (by simp) ?_
            refine AllReadyH.cons (o := { dst := some 111, op := Go.Op.call { callee := Go.Callee.value (Go.Operand.func 38), args := #[Go.Operand.tmp 110], argTypes := #[46] }, type := 4, pos := "law.go:84", after := #[{ on := 16, ground := Go.Ground.data }, { on := 15, ground := Go.Ground.chain }, { on := 13, ground := Go.Ground.guard }], guard := some (13, false) }) rfl (fun K hK => ?_) AllReadyH.nil
            refine step_call1 (f := 38) (x := .tmp 110) (v := .agg #[.slice A' l'.length c', .bool b']) (by rfl) rfl rfl enter38 (inDone_v A' l'.length c' b' _) ?_
            rintro u4 y4 ⟨rfl, hb8⟩
            have HR7 := Aside0.mk (HR7.out.on hb8)
            have HX7 := Aside0.mk ((hb8.block _ (blk_lt HX7.out)).trans HX7.out)
            clear hb8
            refine hK.out _ _ (HX7.out) (fun hHeld => ?_)
            clear hK K
            try simp only [Act.put, List.setIfInBounds_toArray, List.set_cons_zero, List.set_cons_succ]
            refine wpAnyH_take (i := 18) (oi := { dst := some 112, op := Go.Op.binOp Go.BinOp.neq 4 (Go.Operand.tmp 109) (Go.Operand.tmp 111) 4, type := 4, pos := "law.go:84", after := #[{ on := 15, ground := Go.Ground.data }, { on := 17, ground := Go.Ground.data }, { on := 13, ground := Go.Ground.guard }], guard := some (13, false) }) (v := _) rfl (by kernel_rfl) (by kernel_rfl) (by kernel_rfl) (fun _ _ _ h => h) ((show YieldsIf _ _ _ _ (.bool false) _ from Or.inl ⟨by rfl, fun w hSw => by have hdd := HDD.out; go_simp; try simp [hdd]⟩)) hHeld ?_
            try simp only [Act.put, List.setIfInBounds_toArray, List.set_cons_zero, List.set_cons_succ]
            refine wpAnyH_take (i := 19) (oi := { dst := some 113, op := Go.Op.pick (Go.Operand.tmp 107) (Go.Operand.const (Go.Value.bool true)) (Go.Operand.tmp 112), type := 4, pos := "law.go:84", after := #[{ on := 13, ground := Go.Ground.data }, { on := 18, ground := Go.Ground.data }], guard := none }) (v := ?_) rfl (by kernel_rfl) (by kernel_rfl) (by kernel_rfl) (fun _ _ _ h => h) (Or.inl ⟨by rfl, ?_⟩) hHeld ?_
            rotate_left
            · intro w hSw; go_simp; with_reducible rfl
            try simp only [Act.put, List.setIfInBounds_toArray, List.set_cons_zero, List.set_cons_succ]
            refine wpAnyH_done (by kernel_rfl) ?_ _
            refine NoPanic.normal ?_
            go_wp2
            go_roundw
            case rel => exact ⟨k + 1, l', b', A', c', by go_num, by omega, HR7, HX7, HC', HCC', HBN⟩
            case measure => simp [intOf]; omega
          · by_cases hc3' : x = 3
            · skip
              subst hc3'
              have HF := Aside0.mk (four_bytes l bad HBY.out)
              have HK := Aside0.mk (getFour_any w wr A c l bad HC.out HCC.out HBY.out HBw.out)
              have HKR := Aside0.mk (fun W h => rdFour_any w W g l bad h HBY.out)
              generalize fourR l bad = r at *
              obtain ⟨n, l', b'⟩ := r
              have HK := Aside0.mk (show Calls Try.prog 32 #[.agg #[.slice A l.length c, .bool bad]] wr (fun e w' => ∃ A' c', e = .returned (.tuple #[.int .u32 n, .agg #[.slice A' l'.length c', .bool b']]) ∧ (Kd.int .u8).C w A' l'.length l' ∧ l'.length ≤ c' ∧ Below wr.heap.size wr w') from HK.out.mono fun e w' ⟨v', he, ⟨A', c', hv, hC', hc'⟩, hb⟩ => ⟨A', c', by rw [he, hv], hC', hc', hb⟩)
              have HSZ := Aside0.mk (fun A' c' => (show (Try.prog.info? 46).map (·.size) = some (#[.slice A' l'.length c', .bool b'] : Array Value).size from size46))
              have HONE := Aside0.mk (fun A' c' => (show (#[.slice A' l'.length c', .bool b'] : Array Value).all (·.oneCell') = true by simp [Value.oneCell']))
              go_wp2_with (first
                | (go_at_call 32; (with_reducible refine HK.out.mono ?_); rintro e w4 ⟨A', c', rfl, hC', hc', hb4⟩; have HC' := Aside0.mk hC'; have HCC' := Aside0.mk hc'; have HB4 := Aside0.mk hb4; have HR4 := Aside0.mk ((HR.out.on hb4).alloc (.cells #[.slice A' l'.length c', .bool b'] 46)); have HX4 := Aside0.mk (((below_alloc hb4 (.cells #[.slice A' l'.length c', .bool b'] 46)).block _ (blk_lt HX.out)).trans HX.out); clear hC' hc' hb4)
                | ((with_reducible refine arm_store (ty := 46) (x := .tmp 8) (b := w3.heap.size) (c' := #[.slice A' l'.length c', .bool b']) ?_ ?_ ?_ (HSZ.out A' c') (HONE.out A' c') ?_); rfl; rfl; exact there_cs HX4.out rfl)
                | (go_at_call 33; (with_reducible refine (HKR.out _ (HR4.out.setCells HGL.out _)).mono ?_); rintro e w6 ⟨rfl, hr6, hg6⟩; have HR6 := Aside0.mk (show Rd w w6 g l' b' from hr6); have HX6 := Aside0.mk ((hg6.block _ (blk_lt (setCells_row HX4.out [.slice A' l'.length c', .bool b'] rfl)) (fun e => by injection e with e; have := HGL.out; omega)).trans (setCells_row HX4.out [.slice A' l'.length c', .bool b'] rfl)); clear hr6 hg6))
              have HBN := Aside0.mk (show Bytes l' from HF.out)
              go_wp2_with fail
              have HBB := Aside0.mk (show (!b' == b') = false by cases b' <;> rfl)
              have HDD := Aside0.mk (show (!b' && l'.isEmpty) = (!b' && decide (l'.length = 0)) by cases l' <;> simp)
              have HR7 := Aside0.mk (HR6.out.drew)
              have HX7 := Aside0.mk (show w6.drew.heap[w3.heap.size]? = _ from HX6.out)
              refine wp_region_noPanic ?_
              refine wp_region_held_drew (S := (fun W => W.heap[w3.heap.size]? = some (.cells #[.slice A' l'.length c', .bool b'] 46 (0, 0)))) (by kernel_rfl) ?_ (fun hHeld => ?_)
              · exact HX7.out
              refine wpAnyH_take (i := 0) (oi := { dst := some 94, op := Go.Op.move (Go.Operand.tmp 7), type := 43, pos := "law.go:84", after := #[], guard := none }) (v := ?_) rfl (by kernel_rfl) (by kernel_rfl) (by kernel_rfl) (fun _ _ _ h => h) (Or.inl ⟨by rfl, ?_⟩) hHeld ?_
              rotate_left
              · intro w hSw; go_simp; with_reducible rfl
              try simp only [Act.put, List.setIfInBounds_toArray, List.set_cons_zero, List.set_cons_succ]
              refine wpAnyH_take (i := 2) (oi := { dst := some 96, op := Go.Op.fieldAddr 46 (Go.Operand.tmp 8) 1, type := 0, pos := "law.go:84", after := #[], guard := none }) (v := ?_) rfl (by kernel_rfl) (by kernel_rfl) (by kernel_rfl) (fun _ _ _ h => h) (Or.inl ⟨by rfl, ?_⟩) hHeld ?_
              rotate_left
              · intro w hSw; go_simp; with_reducible rfl
              try simp only [Act.put, List.setIfInBounds_toArray, List.set_cons_zero, List.set_cons_succ]
              refine wpAnyH_take (i := 3) (oi := { dst := some 97, op := Go.Op.load 4 (Go.Operand.tmp 96), type := 4, pos := "law.go:84", after := #[{ on := 2, ground := Go.Ground.data }], guard := none }) (v := _) rfl (by kernel_rfl) (by kernel_rfl) (by kernel_rfl) (fun _ _ _ h => h) ((show YieldsIf _ _ _ _ (.bool b') _ from Or.inl ⟨by rfl, fun w hSw => by have hc := cell_of_row w w3.heap.size 1 #[.slice A' l'.length c', .bool b'] 46 (0, 0) hSw; simp at hc; go_simp⟩)) hHeld ?_
              try simp only [Act.put, List.setIfInBounds_toArray, List.set_cons_zero, List.set_cons_succ]
              refine wpAnyH_ready (rs := [1]) (by kernel_rfl) (by simp) ?_
              refine AllReadyH.cons (o := { dst := some 95, op := Go.Op.call { callee := Go.Callee.value (Go.Operand.func 35), args := #[Go.Operand.tmp 94], argTypes := #[43] }, type := 4, pos := "law.go:84", after := #[{ on := 0, ground := Go.Ground.data }], guard := none }) rfl (fun K hK => ?_) AllReadyH.nil
              refine step_call1 (f := 35) (x := .tmp 94) (v := .pointer (some ⟨g, 0, none⟩)) (by rfl) rfl rfl enter35 (good_v w _ g l' b' HR7.out) ?_
              rintro u1 y1 ⟨rfl, rfl⟩
              refine hK.out _ _ (HX7.out) (fun hHeld => ?_)
              clear hK K
              try simp only [Act.put, List.setIfInBounds_toArray, List.set_cons_zero, List.set_cons_succ]
              refine wpAnyH_take (i := 4) (oi := { dst := some 98, op := Go.Op.binOp Go.BinOp.eql 4 (Go.Operand.tmp 95) (Go.Operand.tmp 97) 4, type := 4, pos := "law.go:84", after := #[{ on := 1, ground := Go.Ground.data }, { on := 3, ground := Go.Ground.data }], guard := none }) (v := _) rfl (by kernel_rfl) (by kernel_rfl) (by kernel_rfl) (fun _ _ _ h => h) ((show YieldsIf _ _ _ _ (.bool false) _ from Or.inl ⟨by rfl, fun w hSw => by have hbb := HBB.out; go_simp; try simp only [hbb]⟩)) hHeld ?_
              try simp only [Act.put, List.setIfInBounds_toArray, List.set_cons_zero, List.set_cons_succ]
              refine wpAnyH_take (i := 5) (oi := { dst := some 99, op := Go.Op.move (Go.Operand.tmp 98), type := 4, pos := "law.go:84", after := #[{ on := 4, ground := Go.Ground.data }, { on := 1, ground := Go.Ground.chain }], guard := none }) (v := ?_) rfl (by kernel_rfl) (by kernel_rfl) (by kernel_rfl) (fun _ _ _ h => h) (Or.inl ⟨by rfl, ?_⟩) hHeld ?_
              rotate_left
              · intro w hSw; go_simp; with_reducible rfl
              try simp only [Act.put, List.setIfInBounds_toArray, List.set_cons_zero, List.set_cons_succ]
              refine wpAnyH_take (i := 6) (oi := { dst := some 100, op := Go.Op.move (Go.Operand.tmp 7), type := 43, pos := "law.go:84", after := #[{ on := 5, ground := Go.Ground.guard }], guard := some (5, false) }) (v := ?_) rfl (by kernel_rfl) (by kernel_rfl) (by kernel_rfl) (fun _ _ _ h => h) (Or.inl ⟨by rfl, ?_⟩) hHeld ?_
              rotate_left
              · intro w hSw; go_simp; with_reducible rfl
              try simp only [Act.put, List.setIfInBounds_toArray, List.set_cons_zero, List.set_cons_succ]
              refine wpAnyH_take (i := 8) (oi := { dst := some 102, op := Go.Op.fieldAddr 46 (Go.Operand.tmp 8) 0, type := 0, pos := "law.go:84", after := #[{ on := 5, ground := Go.Ground.guard }], guard := some (5, false) }) (v := ?_) rfl (by kernel_rfl) (by kernel_rfl) (by kernel_rfl) (fun _ _ _ h => h) (Or.inl ⟨by rfl, ?_⟩) hHeld ?_
              rotate_left
              · intro w hSw; go_simp; with_reducible rfl
              try simp only [Act.put, List.setIfInBounds_toArray, List.set_cons_zero, List.set_cons_succ]
              refine wpAnyH_take (i := 9) (oi := { dst := some 103, op := Go.Op.load 22 (Go.Operand.tmp 102), type := 22, pos := "law.go:84", after := #[{ on := 8, ground := Go.Ground.data }, { on := 5, ground := Go.Ground.guard }], guard := some (5, false) }) (v := _) rfl (by kernel_rfl) (by kernel_rfl) (by kernel_rfl) (fun _ _ _ h => h) ((show YieldsIf _ _ _ _ (.slice A' l'.length c') _ from Or.inl ⟨by rfl, fun w hSw => by have hc := cell_of_row w w3.heap.size 0 #[.slice A' l'.length c', .bool b'] 46 (0, 0) hSw; simp at hc; go_simp⟩)) hHeld ?_
              try simp only [Act.put, List.setIfInBounds_toArray, List.set_cons_zero, List.set_cons_succ]
              refine wpAnyH_take (i := 10) (oi := { dst := some 104, op := Go.Op.call { callee := Go.Callee.builtin Go.Builtin.len, args := #[Go.Operand.tmp 103], argTypes := #[22] }, type := 3, pos := "law.go:84", after := #[{ on := 9, ground := Go.Ground.data }, { on := 5, ground := Go.Ground.guard }], guard := some (5, false) }) (v := ?_) rfl (by kernel_rfl) (by kernel_rfl) (by kernel_rfl) (fun _ _ _ h => h) (Or.inl ⟨by rfl, ?_⟩) hHeld ?_
              rotate_left
              · intro w hSw; go_simp; with_reducible rfl
              try simp only [Act.put, List.setIfInBounds_toArray, List.set_cons_zero, List.set_cons_succ]
              refine wpAnyH_ready (rs := [7]) (by kernel_rfl) (by simp) ?_
              refine AllReadyH.cons (o := { dst := some 101, op := Go.Op.call { callee := Go.Callee.value (Go.Operand.func 36), args := #[Go.Operand.tmp 100], argTypes := #[43] }, type := 3, pos := "law.go:84", after := #[{ on := 6, ground := Go.Ground.data }, { on := 5, ground := Go.Ground.chain }, { on := 5, ground := Go.Ground.guard }], guard := some (5, false) }) rfl (fun K hK => ?_) AllReadyH.nil
              refine step_call1 (f := 36) (x := .tmp 100) (v := .pointer (some ⟨g, 0, none⟩)) (by rfl) rfl rfl enter36 (left_v w _ g l' b' HR7.out) ?_
              rintro u2 y2 ⟨rfl, rfl⟩
              refine hK.out _ _ (HX7.out) (fun hHeld => ?_)
              clear hK K
              try simp only [Act.put, List.setIfInBounds_toArray, List.set_cons_zero, List.set_cons_succ]
              refine wpAnyH_take (i := 11) (oi := { dst := some 105, op := Go.Op.binOp Go.BinOp.neq 3 (Go.Operand.tmp 101) (Go.Operand.tmp 104) 3, type := 4, pos := "law.go:84", after := #[{ on := 7, ground := Go.Ground.data }, { on := 10, ground := Go.Ground.data }, { on := 5, ground := Go.Ground.guard }], guard := some (5, false) }) (v := _) rfl (by kernel_rfl) (by kernel_rfl) (by kernel_rfl) (fun _ _ _ h => h) ((show YieldsIf _ _ _ _ (.bool false) _ from Or.inl ⟨by rfl, fun w hSw => by go_simp⟩)) hHeld ?_
              try simp only [Act.put, List.setIfInBounds_toArray, List.set_cons_zero, List.set_cons_succ]
              refine wpAnyH_take (i := 12) (oi := { dst := some 106, op := Go.Op.pick (Go.Operand.tmp 99) (Go.Operand.const (Go.Value.bool true)) (Go.Operand.tmp 105), type := 4, pos := "law.go:84", after := #[{ on := 5, ground := Go.Ground.data }, { on := 11, ground := Go.Ground.data }], guard := none }) (v := ?_) rfl (by kernel_rfl) (by kernel_rfl) (by kernel_rfl) (fun _ _ _ h => h) (Or.inl ⟨by rfl, ?_⟩) hHeld ?_
              rotate_left
              · intro w hSw; go_simp; with_reducible rfl
              try simp only [Act.put, List.setIfInBounds_toArray, List.set_cons_zero, List.set_cons_succ]
              refine wpAnyH_take (i := 13) (oi := { dst := some 107, op := Go.Op.move (Go.Operand.tmp 106), type := 4, pos := "law.go:84", after := #[{ on := 12, ground := Go.Ground.data }, { on := 7, ground := Go.Ground.chain }], guard := none }) (v := ?_) rfl (by kernel_rfl) (by kernel_rfl) (by kernel_rfl) (fun _ _ _ h => h) (Or.inl ⟨by rfl, ?_⟩) hHeld ?_
              rotate_left
              · intro w hSw; go_simp; with_reducible rfl
              try simp only [Act.put, List.setIfInBounds_toArray, List.set_cons_zero, List.set_cons_succ]
              refine wpAnyH_take (i := 14) (oi := { dst := some 108, op := Go.Op.move (Go.Operand.tmp 7), type := 43, pos := "law.go:84", after := #[{ on := 13, ground := Go.Ground.guard }], guard := some (13, false) }) (v := ?_) rfl (by kernel_rfl) (by kernel_rfl) (by kernel_rfl) (fun _ _ _ h => h) (Or.inl ⟨by rfl, ?_⟩) hHeld ?_
              rotate_left
              · intro w hSw; go_simp; with_reducible rfl
              try simp only [Act.put, List.setIfInBounds_toArray, List.set_cons_zero, List.set_cons_succ]
              refine wpAnyH_take (i := 16) (oi := { dst := some 110, op := Go.Op.load 46 (Go.Operand.tmp 8), type := 46, pos := "law.go:84", after := #[{ on := 13, ground := Go.Ground.guard }], guard := some (13, false) }) (v := _) rfl (by kernel_rfl) (by kernel_rfl) (by kernel_rfl) (fun _ _ _ h => h) (yieldsIf_load_mid (by rfl) 46 (.tmp 8) rfl w3.heap.size 0 rfl [.slice A' l'.length c', .bool b'] _ (fun _ h => range_cs h) Try.underlying46 rfl size46) hHeld ?_
              try simp only [Act.put, List.setIfInBounds_toArray, List.set_cons_zero, List.set_cons_succ]
              refine wpAnyH_ready (rs := [15]) (by kernel_rfl) (by simp) ?_
              refine AllReadyH.cons (o := { dst := some 109, op := Go.Op.call { callee := Go.Callee.value (Go.Operand.func 37), args := #[Go.Operand.tmp 108], argTypes := #[43] }, type := 4, pos := "law.go:84", after := #[{ on := 14, ground := Go.Ground.data }, { on := 13, ground := Go.Ground.chain }, { on := 13, ground := Go.Ground.guard }], guard := some (13, false) }) rfl (fun K hK => ?_) AllReadyH.nil
              refine step_call1 (f := 37) (x := .tmp 108) (v := .pointer (some ⟨g, 0, none⟩)) (by rfl) rfl rfl enter37 (done_v w _ g l' b' HR7.out) ?_
              rintro u3 y3 ⟨rfl, rfl⟩
              refine hK.out _ _ (HX7.out) (fun hHeld => ?_)
              clear hK K
              try simp only [Act.put, List.setIfInBounds_toArray, List.set_cons_zero, List.set_cons_succ]
              refine wpAnyH_ready (rs := [17]) (by kernel_rfl) (by simp) ?_
              refine AllReadyH.cons (o := { dst := some 111, op := Go.Op.call { callee := Go.Callee.value (Go.Operand.func 38), args := #[Go.Operand.tmp 110], argTypes := #[46] }, type := 4, pos := "law.go:84", after := #[{ on := 16, ground := Go.Ground.data }, { on := 15, ground := Go.Ground.chain }, { on := 13, ground := Go.Ground.guard }], guard := some (13, false) }) rfl (fun K hK => ?_) AllReadyH.nil
              refine step_call1 (f := 38) (x := .tmp 110) (v := .agg #[.slice A' l'.length c', .bool b']) (by rfl) rfl rfl enter38 (inDone_v A' l'.length c' b' _) ?_
              rintro u4 y4 ⟨rfl, hb8⟩
              have HR7 := Aside0.mk (HR7.out.on hb8)
              have HX7 := Aside0.mk ((hb8.block _ (blk_lt HX7.out)).trans HX7.out)
              clear hb8
              refine hK.out _ _ (HX7.out) (fun hHeld => ?_)
              clear hK K
              try simp only [Act.put, List.setIfInBounds_toArray, List.set_cons_zero, List.set_cons_succ]
              refine wpAnyH_take (i := 18) (oi := { dst := some 112, op := Go.Op.binOp Go.BinOp.neq 4 (Go.Operand.tmp 109) (Go.Operand.tmp 111) 4, type := 4, pos := "law.go:84", after := #[{ on := 15, ground := Go.Ground.data }, { on := 17, ground := Go.Ground.data }, { on := 13, ground := Go.Ground.guard }], guard := some (13, false) }) (v := _) rfl (by kernel_rfl) (by kernel_rfl) (by kernel_rfl) (fun _ _ _ h => h) ((show YieldsIf _ _ _ _ (.bool false) _ from Or.inl ⟨by rfl, fun w hSw => by have hdd := HDD.out; go_simp; try simp [hdd]⟩)) hHeld ?_
              try simp only [Act.put, List.setIfInBounds_toArray, List.set_cons_zero, List.set_cons_succ]
              refine wpAnyH_take (i := 19) (oi := { dst := some 113, op := Go.Op.pick (Go.Operand.tmp 107) (Go.Operand.const (Go.Value.bool true)) (Go.Operand.tmp 112), type := 4, pos := "law.go:84", after := #[{ on := 13, ground := Go.Ground.data }, { on := 18, ground := Go.Ground.data }], guard := none }) (v := ?_) rfl (by kernel_rfl) (by kernel_rfl) (by kernel_rfl) (fun _ _ _ h => h) (Or.inl ⟨by rfl, ?_⟩) hHeld ?_
              rotate_left
              · intro w hSw; go_simp; with_reducible rfl
              try simp only [Act.put, List.setIfInBounds_toArray, List.set_cons_zero, List.set_cons_succ]
              refine wpAnyH_done (by kernel_rfl) ?_ _
              refine NoPanic.normal ?_
              go_wp2
              go_roundw
              case rel => exact ⟨k + 1, l', b', A', c', by go_num, by omega, HR7, HX7, HC', HCC', HBN⟩
              case measure => simp [intOf]; omega
            · by_cases hc2' : x = 2
              · skip
                subst hc2'
                have HF := Aside0.mk (id_bytes l bad HBY.out)
                have HK := Aside0.mk (getId_any w wr A c l bad HC.out HCC.out HBY.out HBw.out)
                have HKR := Aside0.mk (fun W (h : Rd w W g l bad) => (show Calls Try.prog 31 #[.pointer (some ⟨g, 0, none⟩)] W (fun e w' => ∃ u, e = .returned u ∧ u = .agg ((idR l bad).1.map (Value.int .u8)).toArray ∧ Rd w w' g (idR l bad).2.1 (idR l bad).2.2 ∧ W.grownBy w' (some g)) from (rdId_any w W g l bad h).mono fun e w' ⟨cs, he, hcs, _, h1, h2⟩ => ⟨_, he, by rw [hcs], h1, h2⟩))
                have hlen := id_len l bad
                generalize idR l bad = r at *
                obtain ⟨n, l', b'⟩ := r
                have heq := fun W => eq32 W n n hlen hlen
                have hPS : (n.map (Value.int .u8)).toArray.size = 32 := by rw [List.size_toArray, List.length_map]; exact hlen
                have hP1 : (n.map (Value.int .u8)).toArray.all (·.oneCell') = true := all_oneCell_toArray (nums_one n)
                have HK := Aside0.mk (show Calls Try.prog 30 #[.agg #[.slice A l.length c, .bool bad]] wr (fun e w' => ∃ A' c', e = .returned (.tuple #[.agg (n.map (Value.int .u8)).toArray, .agg #[.slice A' l'.length c', .bool b']]) ∧ (Kd.int .u8).C w A' l'.length l' ∧ l'.length ≤ c' ∧ Below wr.heap.size wr w') from HK.out.mono fun e w' ⟨v', he, ⟨A', c', hv, hC', hc'⟩, hb⟩ => ⟨A', c', by rw [he, hv], hC', hc', hb⟩)
                have HKR := Aside0.mk (show ∀ W, Rd w W g l bad → Calls Try.prog 31 #[.pointer (some ⟨g, 0, none⟩)] W (fun e w' => ∃ u, e = .returned u ∧ u = .agg (n.map (Value.int .u8)).toArray ∧ Rd w w' g l' b' ∧ W.grownBy w' (some g)) from HKR.out)
                generalize (n.map (Value.int .u8)).toArray = P at *
                have heq : ∀ W, (Op.equalIn 10000 32 (.agg P) (.agg P)).run Try.prog W = .ok true W := fun W => by rw [heq W, decide_eq_true rfl]
                have HPI := Aside0.mk (show (Try.prog.info? 31).map (·.size) = some P.size by rw [size31, hPS])
                have HPT := Aside0.mk (show (Try.prog.info? 31).map (·.size) = some P.toList.length by rw [size31, Array.length_toList, hPS])
                have HPS := Aside0.mk hPS
                have HP1 := Aside0.mk hP1
                clear hPS hP1 hlen
                have HSZ := Aside0.mk (fun A' c' => (show (Try.prog.info? 46).map (·.size) = some (#[.slice A' l'.length c', .bool b'] : Array Value).size from size46))
                have HONE := Aside0.mk (fun A' c' => (show (#[.slice A' l'.length c', .bool b'] : Array Value).all (·.oneCell') = true by simp [Value.oneCell']))
                go_wp2_with (first
                  | (go_at_call 30; (with_reducible refine HK.out.mono ?_); rintro e w4 ⟨A', c', rfl, hC', hc', hb4⟩; have HC' := Aside0.mk hC'; have HCC' := Aside0.mk hc'; have HR4 := Aside0.mk (HR.out.on hb4); have HX4 := Aside0.mk ((hb4.block _ (blk_lt HX.out)).trans HX.out); have HL34 := Aside0.mk (Nat.lt_of_lt_of_le (blk_lt HX.out) hb4.size); clear hC' hc' hb4)
                  | ((with_reducible refine arm_store (ty := 31) (x := .tmp 15) (b := w4.heap.size) (c' := P) ?_ ?_ ?_ HPI.out HP1.out ?_); rfl; rfl; exact there_cs (heap_alloc2_old w4 _ _) (Eq.trans (b := 32) rfl HPS.out.symm))
                  | ((with_reducible refine arm_store (ty := 46) (x := .tmp 16) (b := w4.heap.size + 1) (c' := #[.slice A' l'.length c', .bool b']) ?_ ?_ ?_ (HSZ.out A' c') (HONE.out A' c') ?_); rfl; rfl; exact there_cs ((setCells_other (by omega)).trans (heap_alloc2_new w4 _ _)) rfl)
                  | ((with_reducible refine arm_loadS (ty := 46) (x := .tmp 16) (b := w4.heap.size + 1) (cs := #[.slice A' l'.length c', .bool b']) ?_ ?_ ?_ Try.underlying46 ?_ (HSZ.out A' c') ?_); rfl; rfl; exact range_cs (setCells_row ((setCells_other (by omega)).trans (heap_alloc2_new w4 _ _)) [.slice A' l'.length c', .bool b'] rfl); rfl)
                  | ((with_reducible refine arm_store (ty := 46) (x := .tmp 8) (b := w3.heap.size) (c' := #[.slice A' l'.length c', .bool b']) ?_ ?_ ?_ (HSZ.out A' c') (HONE.out A' c') ?_); rfl; rfl; exact there_cs ((setCells_other (by have := HL34.out; omega)).trans ((setCells_other (by have := HL34.out; omega)).trans ((Below.heap_alloc _ _ _ (by have := HL34.out; simp; omega)).trans ((Below.heap_alloc _ _ _ HL34.out).trans HX4.out)))) rfl))
                generalize hE : ((((w4.alloc _).alloc _).setCells _ _ _).setCells _ _ _).setCells _ _ _ = W8
                obtain ⟨hrw, hxw, hpw⟩ := id_world HR4.out HGL.out HX4.out rfl _ P (Eq.trans (b := 32) rfl HPS.out.symm) _ _ _ _ W8 hE
                have HRW := Aside0.mk hrw
                have HXW := Aside0.mk hxw
                have HPW := Aside0.mk hpw
                clear hE hrw hxw hpw
                refine wp_region_noPanic ?_
                refine wp_region_held_drew (S := (fun W => W.heap[w4.heap.size]? = some (.cells P 31 (0, 0)))) (by kernel_rfl) ?_ (fun hHeld => ?_)
                · exact HPW.out
                refine wpAnyH_take (i := 0) (oi := { dst := some 73, op := Go.Op.move (Go.Operand.tmp 7), type := 43, pos := "law.go:71", after := #[], guard := none }) (v := ?_) rfl (by kernel_rfl) (by kernel_rfl) (by kernel_rfl) (fun _ _ _ h => h) (Or.inl ⟨by rfl, ?_⟩) hHeld ?_
                rotate_left
                · intro w hSw; go_simp; with_reducible rfl
                try simp only [Act.put, List.setIfInBounds_toArray, List.set_cons_zero, List.set_cons_succ]
                refine wpAnyH_take (i := 2) (oi := { dst := some 75, op := Go.Op.load 31 (Go.Operand.tmp 15), type := 31, pos := "law.go:71", after := #[], guard := none }) (v := _) rfl (by kernel_rfl) (by kernel_rfl) (by kernel_rfl) (fun _ _ _ h => h) (yieldsIf_load_mid (by rfl) 31 (.tmp 15) rfl w4.heap.size 0 rfl P.toList _ (fun _ h => range_cs h) Try.underlying31 rfl HPT.out) hHeld ?_
                try simp only [Act.put, List.setIfInBounds_toArray, List.set_cons_zero, List.set_cons_succ]
                refine wpAnyH_ready (rs := [1]) (by kernel_rfl) (by simp) ?_
                refine AllReadyH.cons (o := { dst := some 74, op := Go.Op.call { callee := Go.Callee.value (Go.Operand.func 31), args := #[Go.Operand.tmp 73], argTypes := #[43] }, type := 32, pos := "law.go:71", after := #[{ on := 0, ground := Go.Ground.data }], guard := none }) rfl (fun K hK => ?_) AllReadyH.nil
                refine step_call1 (f := 31) (x := .tmp 73) (v := .pointer (some ⟨g, 0, none⟩)) (by rfl) rfl rfl enter31 (HKR.out _ HRW.out.drew) ?_
                rintro u1 w6 ⟨rfl, hr6, hg6⟩
                have HR6 := Aside0.mk hr6
                have HX6 := Aside0.mk ((hg6.block _ (blk_lt (show W8.drew.heap[w3.heap.size]? = _ from HXW.out)) (fun e => by injection e with e; have := HGL.out; omega)).trans (show W8.drew.heap[w3.heap.size]? = _ from HXW.out))
                have HP6 := Aside0.mk ((hg6.block _ (blk_lt (show W8.drew.heap[w4.heap.size]? = _ from HPW.out)) (fun e => by injection e with e; have := HGL.out; have := HL34.out; omega)).trans (show W8.drew.heap[w4.heap.size]? = _ from HPW.out))
                clear hr6 hg6
                refine hK.out _ _ (HP6.out) (fun hHeld => ?_)
                clear hK K
                try simp only [Act.put, List.setIfInBounds_toArray, List.set_cons_zero, List.set_cons_succ]
                refine wpAnyH_take (i := 3) (oi := { dst := some 76, op := Go.Op.binOp Go.BinOp.neq 32 (Go.Operand.tmp 74) (Go.Operand.tmp 75) 32, type := 4, pos := "law.go:71", after := #[{ on := 1, ground := Go.Ground.data }, { on := 2, ground := Go.Ground.data }], guard := none }) (v := _) rfl (by kernel_rfl) (by kernel_rfl) (by kernel_rfl) (fun _ _ _ h => h) ((show YieldsIf _ _ _ _ (.bool false) _ from Or.inl ⟨by rfl, fun w hSw => by have he := heq w; rw [show P.toList.toArray = P from Array.toArray_toList (xs := P)]; go_simp⟩)) hHeld ?_
                try simp only [Act.put, List.setIfInBounds_toArray, List.set_cons_zero, List.set_cons_succ]
                refine wpAnyH_done (by kernel_rfl) ?_ _
                refine NoPanic.normal ?_
                have HBN := Aside0.mk (show Bytes l' from HF.out)
                go_wp2_with fail
                have HBB := Aside0.mk (show (!b' == b') = false by cases b' <;> rfl)
                have HDD := Aside0.mk (show (!b' && l'.isEmpty) = (!b' && decide (l'.length = 0)) by cases l' <;> simp)
                have HR7 := Aside0.mk (HR6.out.drew)
                have HX7 := Aside0.mk (show w6.drew.heap[w3.heap.size]? = _ from HX6.out)
                refine wp_region_noPanic ?_
                refine wp_region_held_drew (S := (fun W => W.heap[w3.heap.size]? = some (.cells #[.slice A' l'.length c', .bool b'] 46 (0, 0)))) (by kernel_rfl) ?_ (fun hHeld => ?_)
                · exact HX7.out
                refine wpAnyH_take (i := 0) (oi := { dst := some 94, op := Go.Op.move (Go.Operand.tmp 7), type := 43, pos := "law.go:84", after := #[], guard := none }) (v := ?_) rfl (by kernel_rfl) (by kernel_rfl) (by kernel_rfl) (fun _ _ _ h => h) (Or.inl ⟨by rfl, ?_⟩) hHeld ?_
                rotate_left
                · intro w hSw; go_simp; with_reducible rfl
                try simp only [Act.put, List.setIfInBounds_toArray, List.set_cons_zero, List.set_cons_succ]
                refine wpAnyH_take (i := 2) (oi := { dst := some 96, op := Go.Op.fieldAddr 46 (Go.Operand.tmp 8) 1, type := 0, pos := "law.go:84", after := #[], guard := none }) (v := ?_) rfl (by kernel_rfl) (by kernel_rfl) (by kernel_rfl) (fun _ _ _ h => h) (Or.inl ⟨by rfl, ?_⟩) hHeld ?_
                rotate_left
                · intro w hSw; go_simp; with_reducible rfl
                try simp only [Act.put, List.setIfInBounds_toArray, List.set_cons_zero, List.set_cons_succ]
                refine wpAnyH_take (i := 3) (oi := { dst := some 97, op := Go.Op.load 4 (Go.Operand.tmp 96), type := 4, pos := "law.go:84", after := #[{ on := 2, ground := Go.Ground.data }], guard := none }) (v := _) rfl (by kernel_rfl) (by kernel_rfl) (by kernel_rfl) (fun _ _ _ h => h) ((show YieldsIf _ _ _ _ (.bool b') _ from Or.inl ⟨by rfl, fun w hSw => by have hc := cell_of_row w w3.heap.size 1 #[.slice A' l'.length c', .bool b'] 46 (0, 0) hSw; simp at hc; go_simp⟩)) hHeld ?_
                try simp only [Act.put, List.setIfInBounds_toArray, List.set_cons_zero, List.set_cons_succ]
                refine wpAnyH_ready (rs := [1]) (by kernel_rfl) (by simp) ?_
                refine AllReadyH.cons (o := { dst := some 95, op := Go.Op.call { callee := Go.Callee.value (Go.Operand.func 35), args := #[Go.Operand.tmp 94], argTypes := #[43] }, type := 4, pos := "law.go:84", after := #[{ on := 0, ground := Go.Ground.data }], guard := none }) rfl (fun K hK => ?_) AllReadyH.nil
                refine step_call1 (f := 35) (x := .tmp 94) (v := .pointer (some ⟨g, 0, none⟩)) (by rfl) rfl rfl enter35 (good_v w _ g l' b' HR7.out) ?_
                rintro u1 y1 ⟨rfl, rfl⟩
                refine hK.out _ _ (HX7.out) (fun hHeld => ?_)
                clear hK K
                try simp only [Act.put, List.setIfInBounds_toArray, List.set_cons_zero, List.set_cons_succ]
                refine wpAnyH_take (i := 4) (oi := { dst := some 98, op := Go.Op.binOp Go.BinOp.eql 4 (Go.Operand.tmp 95) (Go.Operand.tmp 97) 4, type := 4, pos := "law.go:84", after := #[{ on := 1, ground := Go.Ground.data }, { on := 3, ground := Go.Ground.data }], guard := none }) (v := _) rfl (by kernel_rfl) (by kernel_rfl) (by kernel_rfl) (fun _ _ _ h => h) ((show YieldsIf _ _ _ _ (.bool false) _ from Or.inl ⟨by rfl, fun w hSw => by have hbb := HBB.out; go_simp; try simp only [hbb]⟩)) hHeld ?_
                try simp only [Act.put, List.setIfInBounds_toArray, List.set_cons_zero, List.set_cons_succ]
                refine wpAnyH_take (i := 5) (oi := { dst := some 99, op := Go.Op.move (Go.Operand.tmp 98), type := 4, pos := "law.go:84", after := #[{ on := 4, ground := Go.Ground.data }, { on := 1, ground := Go.Ground.chain }], guard := none }) (v := ?_) rfl (by kernel_rfl) (by kernel_rfl) (by kernel_rfl) (fun _ _ _ h => h) (Or.inl ⟨by rfl, ?_⟩) hHeld ?_
                rotate_left
                · intro w hSw; go_simp; with_reducible rfl
                try simp only [Act.put, List.setIfInBounds_toArray, List.set_cons_zero, List.set_cons_succ]
                refine wpAnyH_take (i := 6) (oi := { dst := some 100, op := Go.Op.move (Go.Operand.tmp 7), type := 43, pos := "law.go:84", after := #[{ on := 5, ground := Go.Ground.guard }], guard := some (5, false) }) (v := ?_) rfl (by kernel_rfl) (by kernel_rfl) (by kernel_rfl) (fun _ _ _ h => h) (Or.inl ⟨by rfl, ?_⟩) hHeld ?_
                rotate_left
                · intro w hSw; go_simp; with_reducible rfl
                try simp only [Act.put, List.setIfInBounds_toArray, List.set_cons_zero, List.set_cons_succ]
                refine wpAnyH_take (i := 8) (oi := { dst := some 102, op := Go.Op.fieldAddr 46 (Go.Operand.tmp 8) 0, type := 0, pos := "law.go:84", after := #[{ on := 5, ground := Go.Ground.guard }], guard := some (5, false) }) (v := ?_) rfl (by kernel_rfl) (by kernel_rfl) (by kernel_rfl) (fun _ _ _ h => h) (Or.inl ⟨by rfl, ?_⟩) hHeld ?_
                rotate_left
                · intro w hSw; go_simp; with_reducible rfl
                try simp only [Act.put, List.setIfInBounds_toArray, List.set_cons_zero, List.set_cons_succ]
                refine wpAnyH_take (i := 9) (oi := { dst := some 103, op := Go.Op.load 22 (Go.Operand.tmp 102), type := 22, pos := "law.go:84", after := #[{ on := 8, ground := Go.Ground.data }, { on := 5, ground := Go.Ground.guard }], guard := some (5, false) }) (v := _) rfl (by kernel_rfl) (by kernel_rfl) (by kernel_rfl) (fun _ _ _ h => h) ((show YieldsIf _ _ _ _ (.slice A' l'.length c') _ from Or.inl ⟨by rfl, fun w hSw => by have hc := cell_of_row w w3.heap.size 0 #[.slice A' l'.length c', .bool b'] 46 (0, 0) hSw; simp at hc; go_simp⟩)) hHeld ?_
                try simp only [Act.put, List.setIfInBounds_toArray, List.set_cons_zero, List.set_cons_succ]
                refine wpAnyH_take (i := 10) (oi := { dst := some 104, op := Go.Op.call { callee := Go.Callee.builtin Go.Builtin.len, args := #[Go.Operand.tmp 103], argTypes := #[22] }, type := 3, pos := "law.go:84", after := #[{ on := 9, ground := Go.Ground.data }, { on := 5, ground := Go.Ground.guard }], guard := some (5, false) }) (v := ?_) rfl (by kernel_rfl) (by kernel_rfl) (by kernel_rfl) (fun _ _ _ h => h) (Or.inl ⟨by rfl, ?_⟩) hHeld ?_
                rotate_left
                · intro w hSw; go_simp; with_reducible rfl
                try simp only [Act.put, List.setIfInBounds_toArray, List.set_cons_zero, List.set_cons_succ]
                refine wpAnyH_ready (rs := [7]) (by kernel_rfl) (by simp) ?_
                refine AllReadyH.cons (o := { dst := some 101, op := Go.Op.call { callee := Go.Callee.value (Go.Operand.func 36), args := #[Go.Operand.tmp 100], argTypes := #[43] }, type := 3, pos := "law.go:84", after := #[{ on := 6, ground := Go.Ground.data }, { on := 5, ground := Go.Ground.chain }, { on := 5, ground := Go.Ground.guard }], guard := some (5, false) }) rfl (fun K hK => ?_) AllReadyH.nil
                refine step_call1 (f := 36) (x := .tmp 100) (v := .pointer (some ⟨g, 0, none⟩)) (by rfl) rfl rfl enter36 (left_v w _ g l' b' HR7.out) ?_
                rintro u2 y2 ⟨rfl, rfl⟩
                refine hK.out _ _ (HX7.out) (fun hHeld => ?_)
                clear hK K
                try simp only [Act.put, List.setIfInBounds_toArray, List.set_cons_zero, List.set_cons_succ]
                refine wpAnyH_take (i := 11) (oi := { dst := some 105, op := Go.Op.binOp Go.BinOp.neq 3 (Go.Operand.tmp 101) (Go.Operand.tmp 104) 3, type := 4, pos := "law.go:84", after := #[{ on := 7, ground := Go.Ground.data }, { on := 10, ground := Go.Ground.data }, { on := 5, ground := Go.Ground.guard }], guard := some (5, false) }) (v := _) rfl (by kernel_rfl) (by kernel_rfl) (by kernel_rfl) (fun _ _ _ h => h) ((show YieldsIf _ _ _ _ (.bool false) _ from Or.inl ⟨by rfl, fun w hSw => by go_simp⟩)) hHeld ?_
                try simp only [Act.put, List.setIfInBounds_toArray, List.set_cons_zero, List.set_cons_succ]
                refine wpAnyH_take (i := 12) (oi := { dst := some 106, op := Go.Op.pick (Go.Operand.tmp 99) (Go.Operand.const (Go.Value.bool true)) (Go.Operand.tmp 105), type := 4, pos := "law.go:84", after := #[{ on := 5, ground := Go.Ground.data }, { on := 11, ground := Go.Ground.data }], guard := none }) (v := ?_) rfl (by kernel_rfl) (by kernel_rfl) (by kernel_rfl) (fun _ _ _ h => h) (Or.inl ⟨by rfl, ?_⟩) hHeld ?_
                rotate_left
                · intro w hSw; go_simp; with_reducible rfl
                try simp only [Act.put, List.setIfInBounds_toArray, List.set_cons_zero, List.set_cons_succ]
                refine wpAnyH_take (i := 13) (oi := { dst := some 107, op := Go.Op.move (Go.Operand.tmp 106), type := 4, pos := "law.go:84", after := #[{ on := 12, ground := Go.Ground.data }, { on := 7, ground := Go.Ground.chain }], guard := none }) (v := ?_) rfl (by kernel_rfl) (by kernel_rfl) (by kernel_rfl) (fun _ _ _ h => h) (Or.inl ⟨by rfl, ?_⟩) hHeld ?_
                rotate_left
                · intro w hSw; go_simp; with_reducible rfl
                try simp only [Act.put, List.setIfInBounds_toArray, List.set_cons_zero, List.set_cons_succ]
                refine wpAnyH_take (i := 14) (oi := { dst := some 108, op := Go.Op.move (Go.Operand.tmp 7), type := 43, pos := "law.go:84", after := #[{ on := 13, ground := Go.Ground.guard }], guard := some (13, false) }) (v := ?_) rfl (by kernel_rfl) (by kernel_rfl) (by kernel_rfl) (fun _ _ _ h => h) (Or.inl ⟨by rfl, ?_⟩) hHeld ?_
                rotate_left
                · intro w hSw; go_simp; with_reducible rfl
                try simp only [Act.put, List.setIfInBounds_toArray, List.set_cons_zero, List.set_cons_succ]
                refine wpAnyH_take (i := 16) (oi := { dst := some 110, op := Go.Op.load 46 (Go.Operand.tmp 8), type := 46, pos := "law.go:84", after := #[{ on := 13, ground := Go.Ground.guard }], guard := some (13, false) }) (v := _) rfl (by kernel_rfl) (by kernel_rfl) (by kernel_rfl) (fun _ _ _ h => h) (yieldsIf_load_mid (by rfl) 46 (.tmp 8) rfl w3.heap.size 0 rfl [.slice A' l'.length c', .bool b'] _ (fun _ h => range_cs h) Try.underlying46 rfl size46) hHeld ?_
                try simp only [Act.put, List.setIfInBounds_toArray, List.set_cons_zero, List.set_cons_succ]
                refine wpAnyH_ready (rs := [15]) (by kernel_rfl) (by simp) ?_
                refine AllReadyH.cons (o := { dst := some 109, op := Go.Op.call { callee := Go.Callee.value (Go.Operand.func 37), args := #[Go.Operand.tmp 108], argTypes := #[43] }, type := 4, pos := "law.go:84", after := #[{ on := 14, ground := Go.Ground.data }, { on := 13, ground := Go.Ground.chain }, { on := 13, ground := Go.Ground.guard }], guard := some (13, false) }) rfl (fun K hK => ?_) AllReadyH.nil
                refine step_call1 (f := 37) (x := .tmp 108) (v := .pointer (some ⟨g, 0, none⟩)) (by rfl) rfl rfl enter37 (done_v w _ g l' b' HR7.out) ?_
                rintro u3 y3 ⟨rfl, rfl⟩
                refine hK.out _ _ (HX7.out) (fun hHeld => ?_)
                clear hK K
                try simp only [Act.put, List.setIfInBounds_toArray, List.set_cons_zero, List.set_cons_succ]
                refine wpAnyH_ready (rs := [17]) (by kernel_rfl) (by simp) ?_
                refine AllReadyH.cons (o := { dst := some 111, op := Go.Op.call { callee := Go.Callee.value (Go.Operand.func 38), args := #[Go.Operand.tmp 110], argTypes := #[46] }, type := 4, pos := "law.go:84", after := #[{ on := 16, ground := Go.Ground.data }, { on := 15, ground := Go.Ground.chain }, { on := 13, ground := Go.Ground.guard }], guard := some (13, false) }) rfl (fun K hK => ?_) AllReadyH.nil
                refine step_call1 (f := 38) (x := .tmp 110) (v := .agg #[.slice A' l'.length c', .bool b']) (by rfl) rfl rfl enter38 (inDone_v A' l'.length c' b' _) ?_
                rintro u4 y4 ⟨rfl, hb8⟩
                have HR7 := Aside0.mk (HR7.out.on hb8)
                have HX7 := Aside0.mk ((hb8.block _ (blk_lt HX7.out)).trans HX7.out)
                clear hb8
                refine hK.out _ _ (HX7.out) (fun hHeld => ?_)
                clear hK K
                try simp only [Act.put, List.setIfInBounds_toArray, List.set_cons_zero, List.set_cons_succ]
                refine wpAnyH_take (i := 18) (oi := { dst := some 112, op := Go.Op.binOp Go.BinOp.neq 4 (Go.Operand.tmp 109) (Go.Operand.tmp 111) 4, type := 4, pos := "law.go:84", after := #[{ on := 15, ground := Go.Ground.data }, { on := 17, ground := Go.Ground.data }, { on := 13, ground := Go.Ground.guard }], guard := some (13, false) }) (v := _) rfl (by kernel_rfl) (by kernel_rfl) (by kernel_rfl) (fun _ _ _ h => h) ((show YieldsIf _ _ _ _ (.bool false) _ from Or.inl ⟨by rfl, fun w hSw => by have hdd := HDD.out; go_simp; try simp [hdd]⟩)) hHeld ?_
                try simp only [Act.put, List.setIfInBounds_toArray, List.set_cons_zero, List.set_cons_succ]
                refine wpAnyH_take (i := 19) (oi := { dst := some 113, op := Go.Op.pick (Go.Operand.tmp 107) (Go.Operand.const (Go.Value.bool true)) (Go.Operand.tmp 112), type := 4, pos := "law.go:84", after := #[{ on := 13, ground := Go.Ground.data }, { on := 18, ground := Go.Ground.data }], guard := none }) (v := ?_) rfl (by kernel_rfl) (by kernel_rfl) (by kernel_rfl) (fun _ _ _ h => h) (Or.inl ⟨by rfl, ?_⟩) hHeld ?_
                rotate_left
                · intro w hSw; go_simp; with_reducible rfl
                try simp only [Act.put, List.setIfInBounds_toArray, List.set_cons_zero, List.set_cons_succ]
                refine wpAnyH_done (by kernel_rfl) ?_ _
                refine NoPanic.normal ?_
                go_wp2
                go_roundw
                case rel => exact ⟨k + 1, l', b', A', c', by go_num, by omega, HR7, HX7, HC', HCC', HBN⟩
                case measure => simp [intOf]; omega
              · by_cases hc4' : x = 4
                · skip
                  subst hc4'
                  have HSZ := Aside0.mk (show (Try.prog.info? 46).map (·.size) = some (#[.slice none 0 0, .bool true] : Array Value).size from size46)
                  have HONE := Aside0.mk (show (#[.slice none 0 0, .bool true] : Array Value).all (·.oneCell') = true by simp [Value.oneCell'])
                  have HKR := Aside0.mk (fail_any w wr g l bad HR.out)
                  go_wp2_with (first
                    | (go_at_call 34; (with_reducible refine HKR.out.mono ?_); rintro e w5 ⟨rfl, hr6, hg6⟩; have HR5 := Aside0.mk hr6; have HX5 := Aside0.mk ((hg6.block _ (blk_lt HX.out) (fun e => by injection e with e; have := HGL.out; omega)).trans HX.out); clear hr6 hg6)
                    | ((with_reducible refine arm_store (ty := 46) (x := .tmp 8) (b := w3.heap.size) (c' := #[.slice none 0 0, .bool true]) ?_ ?_ ?_ HSZ.out HONE.out ?_); rfl; rfl; exact there_cs HX5.out rfl))
                  have HBN := Aside0.mk (show Bytes ([] : List Int) from fun x hx => by cases hx)
                  have HC' := Aside0.mk (show (Kd.int .u8).C w none ([] : List Int).length [] from Kd.C_of_reads (d := (0 : Int)) (h1 := fun _ => rfl) (ReadsOf.nil _ _ _))
                  have HCC' := Aside0.mk (show ([] : List Int).length ≤ 0 from Nat.le_refl _)
                  have HR6 := Aside0.mk (HR5.out.setCells HGL.out [.slice none 0 0, .bool true])
                  have HX6 := Aside0.mk (setCells_row HX5.out [.slice none 0 0, .bool true] rfl)
                  generalize w5.setCells w3.heap.size 0 [.slice none 0 0, .bool true] = w6 at *
                  obtain ⟨A', c', l', b', HR6, HX6, HC', HCC', HBN⟩ : ∃ (A' : Option Addr) (c' : Nat) (l' : List Int) (b' : Bool), Aside0 (Rd w w6 g l' b') ∧ Aside0 (w6.heap[w3.heap.size]? = some (.cells #[.slice A' l'.length c', .bool b'] 46 (0, 0))) ∧ Aside0 ((Kd.int .u8).C w A' l'.length l') ∧ Aside0 (l'.length ≤ c') ∧ Aside0 (Bytes l') := ⟨none, 0, [], true, HR6, HX6, HC', HCC', HBN⟩
                  go_wp2_with fail
                  have HBB := Aside0.mk (show (!b' == b') = false by cases b' <;> rfl)
                  have HDD := Aside0.mk (show (!b' && l'.isEmpty) = (!b' && decide (l'.length = 0)) by cases l' <;> simp)
                  have HR7 := Aside0.mk (HR6.out.drew)
                  have HX7 := Aside0.mk (show w6.drew.heap[w3.heap.size]? = _ from HX6.out)
                  refine wp_region_noPanic ?_
                  refine wp_region_held_drew (S := (fun W => W.heap[w3.heap.size]? = some (.cells #[.slice A' l'.length c', .bool b'] 46 (0, 0)))) (by kernel_rfl) ?_ (fun hHeld => ?_)
                  · exact HX7.out
                  refine wpAnyH_take (i := 0) (oi := { dst := some 94, op := Go.Op.move (Go.Operand.tmp 7), type := 43, pos := "law.go:84", after := #[], guard := none }) (v := ?_) rfl (by kernel_rfl) (by kernel_rfl) (by kernel_rfl) (fun _ _ _ h => h) (Or.inl ⟨by rfl, ?_⟩) hHeld ?_
                  rotate_left
                  · intro w hSw; go_simp; with_reducible rfl
                  try simp only [Act.put, List.setIfInBounds_toArray, List.set_cons_zero, List.set_cons_succ]
                  refine wpAnyH_take (i := 2) (oi := { dst := some 96, op := Go.Op.fieldAddr 46 (Go.Operand.tmp 8) 1, type := 0, pos := "law.go:84", after := #[], guard := none }) (v := ?_) rfl (by kernel_rfl) (by kernel_rfl) (by kernel_rfl) (fun _ _ _ h => h) (Or.inl ⟨by rfl, ?_⟩) hHeld ?_
                  rotate_left
                  · intro w hSw; go_simp; with_reducible rfl
                  try simp only [Act.put, List.setIfInBounds_toArray, List.set_cons_zero, List.set_cons_succ]
                  refine wpAnyH_take (i := 3) (oi := { dst := some 97, op := Go.Op.load 4 (Go.Operand.tmp 96), type := 4, pos := "law.go:84", after := #[{ on := 2, ground := Go.Ground.data }], guard := none }) (v := _) rfl (by kernel_rfl) (by kernel_rfl) (by kernel_rfl) (fun _ _ _ h => h) ((show YieldsIf _ _ _ _ (.bool b') _ from Or.inl ⟨by rfl, fun w hSw => by have hc := cell_of_row w w3.heap.size 1 #[.slice A' l'.length c', .bool b'] 46 (0, 0) hSw; simp at hc; go_simp⟩)) hHeld ?_
                  try simp only [Act.put, List.setIfInBounds_toArray, List.set_cons_zero, List.set_cons_succ]
                  refine wpAnyH_ready (rs := [1]) (by kernel_rfl) (by simp) ?_
                  refine AllReadyH.cons (o := { dst := some 95, op := Go.Op.call { callee := Go.Callee.value (Go.Operand.func 35), args := #[Go.Operand.tmp 94], argTypes := #[43] }, type := 4, pos := "law.go:84", after := #[{ on := 0, ground := Go.Ground.data }], guard := none }) rfl (fun K hK => ?_) AllReadyH.nil
                  refine step_call1 (f := 35) (x := .tmp 94) (v := .pointer (some ⟨g, 0, none⟩)) (by rfl) rfl rfl enter35 (good_v w _ g l' b' HR7.out) ?_
                  rintro u1 y1 ⟨rfl, rfl⟩
                  refine hK.out _ _ (HX7.out) (fun hHeld => ?_)
                  clear hK K
                  try simp only [Act.put, List.setIfInBounds_toArray, List.set_cons_zero, List.set_cons_succ]
                  refine wpAnyH_take (i := 4) (oi := { dst := some 98, op := Go.Op.binOp Go.BinOp.eql 4 (Go.Operand.tmp 95) (Go.Operand.tmp 97) 4, type := 4, pos := "law.go:84", after := #[{ on := 1, ground := Go.Ground.data }, { on := 3, ground := Go.Ground.data }], guard := none }) (v := _) rfl (by kernel_rfl) (by kernel_rfl) (by kernel_rfl) (fun _ _ _ h => h) ((show YieldsIf _ _ _ _ (.bool false) _ from Or.inl ⟨by rfl, fun w hSw => by have hbb := HBB.out; go_simp; try simp only [hbb]⟩)) hHeld ?_
                  try simp only [Act.put, List.setIfInBounds_toArray, List.set_cons_zero, List.set_cons_succ]
                  refine wpAnyH_take (i := 5) (oi := { dst := some 99, op := Go.Op.move (Go.Operand.tmp 98), type := 4, pos := "law.go:84", after := #[{ on := 4, ground := Go.Ground.data }, { on := 1, ground := Go.Ground.chain }], guard := none }) (v := ?_) rfl (by kernel_rfl) (by kernel_rfl) (by kernel_rfl) (fun _ _ _ h => h) (Or.inl ⟨by rfl, ?_⟩) hHeld ?_
                  rotate_left
                  · intro w hSw; go_simp; with_reducible rfl
                  try simp only [Act.put, List.setIfInBounds_toArray, List.set_cons_zero, List.set_cons_succ]
                  refine wpAnyH_take (i := 6) (oi := { dst := some 100, op := Go.Op.move (Go.Operand.tmp 7), type := 43, pos := "law.go:84", after := #[{ on := 5, ground := Go.Ground.guard }], guard := some (5, false) }) (v := ?_) rfl (by kernel_rfl) (by kernel_rfl) (by kernel_rfl) (fun _ _ _ h => h) (Or.inl ⟨by rfl, ?_⟩) hHeld ?_
                  rotate_left
                  · intro w hSw; go_simp; with_reducible rfl
                  try simp only [Act.put, List.setIfInBounds_toArray, List.set_cons_zero, List.set_cons_succ]
                  refine wpAnyH_take (i := 8) (oi := { dst := some 102, op := Go.Op.fieldAddr 46 (Go.Operand.tmp 8) 0, type := 0, pos := "law.go:84", after := #[{ on := 5, ground := Go.Ground.guard }], guard := some (5, false) }) (v := ?_) rfl (by kernel_rfl) (by kernel_rfl) (by kernel_rfl) (fun _ _ _ h => h) (Or.inl ⟨by rfl, ?_⟩) hHeld ?_
                  rotate_left
                  · intro w hSw; go_simp; with_reducible rfl
                  try simp only [Act.put, List.setIfInBounds_toArray, List.set_cons_zero, List.set_cons_succ]
                  refine wpAnyH_take (i := 9) (oi := { dst := some 103, op := Go.Op.load 22 (Go.Operand.tmp 102), type := 22, pos := "law.go:84", after := #[{ on := 8, ground := Go.Ground.data }, { on := 5, ground := Go.Ground.guard }], guard := some (5, false) }) (v := _) rfl (by kernel_rfl) (by kernel_rfl) (by kernel_rfl) (fun _ _ _ h => h) ((show YieldsIf _ _ _ _ (.slice A' l'.length c') _ from Or.inl ⟨by rfl, fun w hSw => by have hc := cell_of_row w w3.heap.size 0 #[.slice A' l'.length c', .bool b'] 46 (0, 0) hSw; simp at hc; go_simp⟩)) hHeld ?_
                  try simp only [Act.put, List.setIfInBounds_toArray, List.set_cons_zero, List.set_cons_succ]
                  refine wpAnyH_take (i := 10) (oi := { dst := some 104, op := Go.Op.call { callee := Go.Callee.builtin Go.Builtin.len, args := #[Go.Operand.tmp 103], argTypes := #[22] }, type := 3, pos := "law.go:84", after := #[{ on := 9, ground := Go.Ground.data }, { on := 5, ground := Go.Ground.guard }], guard := some (5, false) }) (v := ?_) rfl (by kernel_rfl) (by kernel_rfl) (by kernel_rfl) (fun _ _ _ h => h) (Or.inl ⟨by rfl, ?_⟩) hHeld ?_
                  rotate_left
                  · intro w hSw; go_simp; with_reducible rfl
                  try simp only [Act.put, List.setIfInBounds_toArray, List.set_cons_zero, List.set_cons_succ]
                  refine wpAnyH_ready (rs := [7]) (by kernel_rfl) (by simp) ?_
                  refine AllReadyH.cons (o := { dst := some 101, op := Go.Op.call { callee := Go.Callee.value (Go.Operand.func 36), args := #[Go.Operand.tmp 100], argTypes := #[43] }, type := 3, pos := "law.go:84", after := #[{ on := 6, ground := Go.Ground.data }, { on := 5, ground := Go.Ground.chain }, { on := 5, ground := Go.Ground.guard }], guard := some (5, false) }) rfl (fun K hK => ?_) AllReadyH.nil
                  refine step_call1 (f := 36) (x := .tmp 100) (v := .pointer (some ⟨g, 0, none⟩)) (by rfl) rfl rfl enter36 (left_v w _ g l' b' HR7.out) ?_
                  rintro u2 y2 ⟨rfl, rfl⟩
                  refine hK.out _ _ (HX7.out) (fun hHeld => ?_)
                  clear hK K
                  try simp only [Act.put, List.setIfInBounds_toArray, List.set_cons_zero, List.set_cons_succ]
                  refine wpAnyH_take (i := 11) (oi := { dst := some 105, op := Go.Op.binOp Go.BinOp.neq 3 (Go.Operand.tmp 101) (Go.Operand.tmp 104) 3, type := 4, pos := "law.go:84", after := #[{ on := 7, ground := Go.Ground.data }, { on := 10, ground := Go.Ground.data }, { on := 5, ground := Go.Ground.guard }], guard := some (5, false) }) (v := _) rfl (by kernel_rfl) (by kernel_rfl) (by kernel_rfl) (fun _ _ _ h => h) ((show YieldsIf _ _ _ _ (.bool false) _ from Or.inl ⟨by rfl, fun w hSw => by go_simp⟩)) hHeld ?_
                  try simp only [Act.put, List.setIfInBounds_toArray, List.set_cons_zero, List.set_cons_succ]
                  refine wpAnyH_take (i := 12) (oi := { dst := some 106, op := Go.Op.pick (Go.Operand.tmp 99) (Go.Operand.const (Go.Value.bool true)) (Go.Operand.tmp 105), type := 4, pos := "law.go:84", after := #[{ on := 5, ground := Go.Ground.data }, { on := 11, ground := Go.Ground.data }], guard := none }) (v := ?_) rfl (by kernel_rfl) (by kernel_rfl) (by kernel_rfl) (fun _ _ _ h => h) (Or.inl ⟨by rfl, ?_⟩) hHeld ?_
                  rotate_left
                  · intro w hSw; go_simp; with_reducible rfl
                  try simp only [Act.put, List.setIfInBounds_toArray, List.set_cons_zero, List.set_cons_succ]
                  refine wpAnyH_take (i := 13) (oi := { dst := some 107, op := Go.Op.move (Go.Operand.tmp 106), type := 4, pos := "law.go:84", after := #[{ on := 12, ground := Go.Ground.data }, { on := 7, ground := Go.Ground.chain }], guard := none }) (v := ?_) rfl (by kernel_rfl) (by kernel_rfl) (by kernel_rfl) (fun _ _ _ h => h) (Or.inl ⟨by rfl, ?_⟩) hHeld ?_
                  rotate_left
                  · intro w hSw; go_simp; with_reducible rfl
                  try simp only [Act.put, List.setIfInBounds_toArray, List.set_cons_zero, List.set_cons_succ]
                  refine wpAnyH_take (i := 14) (oi := { dst := some 108, op := Go.Op.move (Go.Operand.tmp 7), type := 43, pos := "law.go:84", after := #[{ on := 13, ground := Go.Ground.guard }], guard := some (13, false) }) (v := ?_) rfl (by kernel_rfl) (by kernel_rfl) (by kernel_rfl) (fun _ _ _ h => h) (Or.inl ⟨by rfl, ?_⟩) hHeld ?_
                  rotate_left
                  · intro w hSw; go_simp; with_reducible rfl
                  try simp only [Act.put, List.setIfInBounds_toArray, List.set_cons_zero, List.set_cons_succ]
                  refine wpAnyH_take (i := 16) (oi := { dst := some 110, op := Go.Op.load 46 (Go.Operand.tmp 8), type := 46, pos := "law.go:84", after := #[{ on := 13, ground := Go.Ground.guard }], guard := some (13, false) }) (v := _) rfl (by kernel_rfl) (by kernel_rfl) (by kernel_rfl) (fun _ _ _ h => h) (yieldsIf_load_mid (by rfl) 46 (.tmp 8) rfl w3.heap.size 0 rfl [.slice A' l'.length c', .bool b'] _ (fun _ h => range_cs h) Try.underlying46 rfl size46) hHeld ?_
                  try simp only [Act.put, List.setIfInBounds_toArray, List.set_cons_zero, List.set_cons_succ]
                  refine wpAnyH_ready (rs := [15]) (by kernel_rfl) (by simp) ?_
                  refine AllReadyH.cons (o := { dst := some 109, op := Go.Op.call { callee := Go.Callee.value (Go.Operand.func 37), args := #[Go.Operand.tmp 108], argTypes := #[43] }, type := 4, pos := "law.go:84", after := #[{ on := 14, ground := Go.Ground.data }, { on := 13, ground := Go.Ground.chain }, { on := 13, ground := Go.Ground.guard }], guard := some (13, false) }) rfl (fun K hK => ?_) AllReadyH.nil
                  refine step_call1 (f := 37) (x := .tmp 108) (v := .pointer (some ⟨g, 0, none⟩)) (by rfl) rfl rfl enter37 (done_v w _ g l' b' HR7.out) ?_
                  rintro u3 y3 ⟨rfl, rfl⟩
                  refine hK.out _ _ (HX7.out) (fun hHeld => ?_)
                  clear hK K
                  try simp only [Act.put, List.setIfInBounds_toArray, List.set_cons_zero, List.set_cons_succ]
                  refine wpAnyH_ready (rs := [17]) (by kernel_rfl) (by simp) ?_
                  refine AllReadyH.cons (o := { dst := some 111, op := Go.Op.call { callee := Go.Callee.value (Go.Operand.func 38), args := #[Go.Operand.tmp 110], argTypes := #[46] }, type := 4, pos := "law.go:84", after := #[{ on := 16, ground := Go.Ground.data }, { on := 15, ground := Go.Ground.chain }, { on := 13, ground := Go.Ground.guard }], guard := some (13, false) }) rfl (fun K hK => ?_) AllReadyH.nil
                  refine step_call1 (f := 38) (x := .tmp 110) (v := .agg #[.slice A' l'.length c', .bool b']) (by rfl) rfl rfl enter38 (inDone_v A' l'.length c' b' _) ?_
                  rintro u4 y4 ⟨rfl, hb8⟩
                  have HR7 := Aside0.mk (HR7.out.on hb8)
                  have HX7 := Aside0.mk ((hb8.block _ (blk_lt HX7.out)).trans HX7.out)
                  clear hb8
                  refine hK.out _ _ (HX7.out) (fun hHeld => ?_)
                  clear hK K
                  try simp only [Act.put, List.setIfInBounds_toArray, List.set_cons_zero, List.set_cons_succ]
                  refine wpAnyH_take (i := 18) (oi := { dst := some 112, op := Go.Op.binOp Go.BinOp.neq 4 (Go.Operand.tmp 109) (Go.Operand.tmp 111) 4, type := 4, pos := "law.go:84", after := #[{ on := 15, ground := Go.Ground.data }, { on := 17, ground := Go.Ground.data }, { on := 13, ground := Go.Ground.guard }], guard := some (13, false) }) (v := _) rfl (by kernel_rfl) (by kernel_rfl) (by kernel_rfl) (fun _ _ _ h => h) ((show YieldsIf _ _ _ _ (.bool false) _ from Or.inl ⟨by rfl, fun w hSw => by have hdd := HDD.out; go_simp; try simp [hdd]⟩)) hHeld ?_
                  try simp only [Act.put, List.setIfInBounds_toArray, List.set_cons_zero, List.set_cons_succ]
                  refine wpAnyH_take (i := 19) (oi := { dst := some 113, op := Go.Op.pick (Go.Operand.tmp 107) (Go.Operand.const (Go.Value.bool true)) (Go.Operand.tmp 112), type := 4, pos := "law.go:84", after := #[{ on := 13, ground := Go.Ground.data }, { on := 18, ground := Go.Ground.data }], guard := none }) (v := ?_) rfl (by kernel_rfl) (by kernel_rfl) (by kernel_rfl) (fun _ _ _ h => h) (Or.inl ⟨by rfl, ?_⟩) hHeld ?_
                  rotate_left
                  · intro w hSw; go_simp; with_reducible rfl
                  try simp only [Act.put, List.setIfInBounds_toArray, List.set_cons_zero, List.set_cons_succ]
                  refine wpAnyH_done (by kernel_rfl) ?_ _
                  refine NoPanic.normal ?_
                  go_wp2
                  go_roundw
                  case rel => exact ⟨k + 1, l', b', A', c', by go_num, by omega, HR7, HX7, HC', HCC', HBN⟩
                  case measure => simp [intOf]; omega
                · skip
                  have HR6 := Aside0.mk HR.out
                  have HX6 := Aside0.mk HX.out
                  go_wp2_with fail
                  have HBB := Aside0.mk (show (!bad == bad) = false by cases bad <;> rfl)
                  have HDD := Aside0.mk (show (!bad && l.isEmpty) = (!bad && decide (l.length = 0)) by cases l <;> simp)
                  have HR7 := Aside0.mk (HR6.out.drew)
                  have HX7 := Aside0.mk (show wr.drew.heap[w3.heap.size]? = _ from HX6.out)
                  refine wp_region_noPanic ?_
                  refine wp_region_held_drew (S := (fun W => W.heap[w3.heap.size]? = some (.cells #[.slice A l.length c, .bool bad] 46 (0, 0)))) (by kernel_rfl) ?_ (fun hHeld => ?_)
                  · exact HX7.out
                  refine wpAnyH_take (i := 0) (oi := { dst := some 94, op := Go.Op.move (Go.Operand.tmp 7), type := 43, pos := "law.go:84", after := #[], guard := none }) (v := ?_) rfl (by kernel_rfl) (by kernel_rfl) (by kernel_rfl) (fun _ _ _ h => h) (Or.inl ⟨by rfl, ?_⟩) hHeld ?_
                  rotate_left
                  · intro w hSw; go_simp; with_reducible rfl
                  try simp only [Act.put, List.setIfInBounds_toArray, List.set_cons_zero, List.set_cons_succ]
                  refine wpAnyH_take (i := 2) (oi := { dst := some 96, op := Go.Op.fieldAddr 46 (Go.Operand.tmp 8) 1, type := 0, pos := "law.go:84", after := #[], guard := none }) (v := ?_) rfl (by kernel_rfl) (by kernel_rfl) (by kernel_rfl) (fun _ _ _ h => h) (Or.inl ⟨by rfl, ?_⟩) hHeld ?_
                  rotate_left
                  · intro w hSw; go_simp; with_reducible rfl
                  try simp only [Act.put, List.setIfInBounds_toArray, List.set_cons_zero, List.set_cons_succ]
                  refine wpAnyH_take (i := 3) (oi := { dst := some 97, op := Go.Op.load 4 (Go.Operand.tmp 96), type := 4, pos := "law.go:84", after := #[{ on := 2, ground := Go.Ground.data }], guard := none }) (v := _) rfl (by kernel_rfl) (by kernel_rfl) (by kernel_rfl) (fun _ _ _ h => h) ((show YieldsIf _ _ _ _ (.bool bad) _ from Or.inl ⟨by rfl, fun w hSw => by have hc := cell_of_row w w3.heap.size 1 #[.slice A l.length c, .bool bad] 46 (0, 0) hSw; simp at hc; go_simp⟩)) hHeld ?_
                  try simp only [Act.put, List.setIfInBounds_toArray, List.set_cons_zero, List.set_cons_succ]
                  refine wpAnyH_ready (rs := [1]) (by kernel_rfl) (by simp) ?_
                  refine AllReadyH.cons (o := { dst := some 95, op := Go.Op.call { callee := Go.Callee.value (Go.Operand.func 35), args := #[Go.Operand.tmp 94], argTypes := #[43] }, type := 4, pos := "law.go:84", after := #[{ on := 0, ground := Go.Ground.data }], guard := none }) rfl (fun K hK => ?_) AllReadyH.nil
                  refine step_call1 (f := 35) (x := .tmp 94) (v := .pointer (some ⟨g, 0, none⟩)) (by rfl) rfl rfl enter35 (good_v w _ g l bad HR7.out) ?_
                  rintro u1 y1 ⟨rfl, rfl⟩
                  refine hK.out _ _ (HX7.out) (fun hHeld => ?_)
                  clear hK K
                  try simp only [Act.put, List.setIfInBounds_toArray, List.set_cons_zero, List.set_cons_succ]
                  refine wpAnyH_take (i := 4) (oi := { dst := some 98, op := Go.Op.binOp Go.BinOp.eql 4 (Go.Operand.tmp 95) (Go.Operand.tmp 97) 4, type := 4, pos := "law.go:84", after := #[{ on := 1, ground := Go.Ground.data }, { on := 3, ground := Go.Ground.data }], guard := none }) (v := _) rfl (by kernel_rfl) (by kernel_rfl) (by kernel_rfl) (fun _ _ _ h => h) ((show YieldsIf _ _ _ _ (.bool false) _ from Or.inl ⟨by rfl, fun w hSw => by have hbb := HBB.out; go_simp; try simp only [hbb]⟩)) hHeld ?_
                  try simp only [Act.put, List.setIfInBounds_toArray, List.set_cons_zero, List.set_cons_succ]
                  refine wpAnyH_take (i := 5) (oi := { dst := some 99, op := Go.Op.move (Go.Operand.tmp 98), type := 4, pos := "law.go:84", after := #[{ on := 4, ground := Go.Ground.data }, { on := 1, ground := Go.Ground.chain }], guard := none }) (v := ?_) rfl (by kernel_rfl) (by kernel_rfl) (by kernel_rfl) (fun _ _ _ h => h) (Or.inl ⟨by rfl, ?_⟩) hHeld ?_
                  rotate_left
                  · intro w hSw; go_simp; with_reducible rfl
                  try simp only [Act.put, List.setIfInBounds_toArray, List.set_cons_zero, List.set_cons_succ]
                  refine wpAnyH_take (i := 6) (oi := { dst := some 100, op := Go.Op.move (Go.Operand.tmp 7), type := 43, pos := "law.go:84", after := #[{ on := 5, ground := Go.Ground.guard }], guard := some (5, false) }) (v := ?_) rfl (by kernel_rfl) (by kernel_rfl) (by kernel_rfl) (fun _ _ _ h => h) (Or.inl ⟨by rfl, ?_⟩) hHeld ?_
                  rotate_left
                  · intro w hSw; go_simp; with_reducible rfl
                  try simp only [Act.put, List.setIfInBounds_toArray, List.set_cons_zero, List.set_cons_succ]
                  refine wpAnyH_take (i := 8) (oi := { dst := some 102, op := Go.Op.fieldAddr 46 (Go.Operand.tmp 8) 0, type := 0, pos := "law.go:84", after := #[{ on := 5, ground := Go.Ground.guard }], guard := some (5, false) }) (v := ?_) rfl (by kernel_rfl) (by kernel_rfl) (by kernel_rfl) (fun _ _ _ h => h) (Or.inl ⟨by rfl, ?_⟩) hHeld ?_
                  rotate_left
                  · intro w hSw; go_simp; with_reducible rfl
                  try simp only [Act.put, List.setIfInBounds_toArray, List.set_cons_zero, List.set_cons_succ]
                  refine wpAnyH_take (i := 9) (oi := { dst := some 103, op := Go.Op.load 22 (Go.Operand.tmp 102), type := 22, pos := "law.go:84", after := #[{ on := 8, ground := Go.Ground.data }, { on := 5, ground := Go.Ground.guard }], guard := some (5, false) }) (v := _) rfl (by kernel_rfl) (by kernel_rfl) (by kernel_rfl) (fun _ _ _ h => h) ((show YieldsIf _ _ _ _ (.slice A l.length c) _ from Or.inl ⟨by rfl, fun w hSw => by have hc := cell_of_row w w3.heap.size 0 #[.slice A l.length c, .bool bad] 46 (0, 0) hSw; simp at hc; go_simp⟩)) hHeld ?_
                  try simp only [Act.put, List.setIfInBounds_toArray, List.set_cons_zero, List.set_cons_succ]
                  refine wpAnyH_take (i := 10) (oi := { dst := some 104, op := Go.Op.call { callee := Go.Callee.builtin Go.Builtin.len, args := #[Go.Operand.tmp 103], argTypes := #[22] }, type := 3, pos := "law.go:84", after := #[{ on := 9, ground := Go.Ground.data }, { on := 5, ground := Go.Ground.guard }], guard := some (5, false) }) (v := ?_) rfl (by kernel_rfl) (by kernel_rfl) (by kernel_rfl) (fun _ _ _ h => h) (Or.inl ⟨by rfl, ?_⟩) hHeld ?_
                  rotate_left
                  · intro w hSw; go_simp; with_reducible rfl
                  try simp only [Act.put, List.setIfInBounds_toArray, List.set_cons_zero, List.set_cons_succ]
                  refine wpAnyH_ready (rs := [7]) (by kernel_rfl) (by simp) ?_
                  refine AllReadyH.cons (o := { dst := some 101, op := Go.Op.call { callee := Go.Callee.value (Go.Operand.func 36), args := #[Go.Operand.tmp 100], argTypes := #[43] }, type := 3, pos := "law.go:84", after := #[{ on := 6, ground := Go.Ground.data }, { on := 5, ground := Go.Ground.chain }, { on := 5, ground := Go.Ground.guard }], guard := some (5, false) }) rfl (fun K hK => ?_) AllReadyH.nil
                  refine step_call1 (f := 36) (x := .tmp 100) (v := .pointer (some ⟨g, 0, none⟩)) (by rfl) rfl rfl enter36 (left_v w _ g l bad HR7.out) ?_
                  rintro u2 y2 ⟨rfl, rfl⟩
                  refine hK.out _ _ (HX7.out) (fun hHeld => ?_)
                  clear hK K
                  try simp only [Act.put, List.setIfInBounds_toArray, List.set_cons_zero, List.set_cons_succ]
                  refine wpAnyH_take (i := 11) (oi := { dst := some 105, op := Go.Op.binOp Go.BinOp.neq 3 (Go.Operand.tmp 101) (Go.Operand.tmp 104) 3, type := 4, pos := "law.go:84", after := #[{ on := 7, ground := Go.Ground.data }, { on := 10, ground := Go.Ground.data }, { on := 5, ground := Go.Ground.guard }], guard := some (5, false) }) (v := _) rfl (by kernel_rfl) (by kernel_rfl) (by kernel_rfl) (fun _ _ _ h => h) ((show YieldsIf _ _ _ _ (.bool false) _ from Or.inl ⟨by rfl, fun w hSw => by go_simp⟩)) hHeld ?_
                  try simp only [Act.put, List.setIfInBounds_toArray, List.set_cons_zero, List.set_cons_succ]
                  refine wpAnyH_take (i := 12) (oi := { dst := some 106, op := Go.Op.pick (Go.Operand.tmp 99) (Go.Operand.const (Go.Value.bool true)) (Go.Operand.tmp 105), type := 4, pos := "law.go:84", after := #[{ on := 5, ground := Go.Ground.data }, { on := 11, ground := Go.Ground.data }], guard := none }) (v := ?_) rfl (by kernel_rfl) (by kernel_rfl) (by kernel_rfl) (fun _ _ _ h => h) (Or.inl ⟨by rfl, ?_⟩) hHeld ?_
                  rotate_left
                  · intro w hSw; go_simp; with_reducible rfl
                  try simp only [Act.put, List.setIfInBounds_toArray, List.set_cons_zero, List.set_cons_succ]
                  refine wpAnyH_take (i := 13) (oi := { dst := some 107, op := Go.Op.move (Go.Operand.tmp 106), type := 4, pos := "law.go:84", after := #[{ on := 12, ground := Go.Ground.data }, { on := 7, ground := Go.Ground.chain }], guard := none }) (v := ?_) rfl (by kernel_rfl) (by kernel_rfl) (by kernel_rfl) (fun _ _ _ h => h) (Or.inl ⟨by rfl, ?_⟩) hHeld ?_
                  rotate_left
                  · intro w hSw; go_simp; with_reducible rfl
                  try simp only [Act.put, List.setIfInBounds_toArray, List.set_cons_zero, List.set_cons_succ]
                  refine wpAnyH_take (i := 14) (oi := { dst := some 108, op := Go.Op.move (Go.Operand.tmp 7), type := 43, pos := "law.go:84", after := #[{ on := 13, ground := Go.Ground.guard }], guard := some (13, false) }) (v := ?_) rfl (by kernel_rfl) (by kernel_rfl) (by kernel_rfl) (fun _ _ _ h => h) (Or.inl ⟨by rfl, ?_⟩) hHeld ?_
                  rotate_left
                  · intro w hSw; go_simp; with_reducible rfl
                  try simp only [Act.put, List.setIfInBounds_toArray, List.set_cons_zero, List.set_cons_succ]
                  refine wpAnyH_take (i := 16) (oi := { dst := some 110, op := Go.Op.load 46 (Go.Operand.tmp 8), type := 46, pos := "law.go:84", after := #[{ on := 13, ground := Go.Ground.guard }], guard := some (13, false) }) (v := _) rfl (by kernel_rfl) (by kernel_rfl) (by kernel_rfl) (fun _ _ _ h => h) (yieldsIf_load_mid (by rfl) 46 (.tmp 8) rfl w3.heap.size 0 rfl [.slice A l.length c, .bool bad] _ (fun _ h => range_cs h) Try.underlying46 rfl size46) hHeld ?_
                  try simp only [Act.put, List.setIfInBounds_toArray, List.set_cons_zero, List.set_cons_succ]
                  refine wpAnyH_ready (rs := [15]) (by kernel_rfl) (by simp) ?_
                  refine AllReadyH.cons (o := { dst := some 109, op := Go.Op.call { callee := Go.Callee.value (Go.Operand.func 37), args := #[Go.Operand.tmp 108], argTypes := #[43] }, type := 4, pos := "law.go:84", after := #[{ on := 14, ground := Go.Ground.data }, { on := 13, ground := Go.Ground.chain }, { on := 13, ground := Go.Ground.guard }], guard := some (13, false) }) rfl (fun K hK => ?_) AllReadyH.nil
                  refine step_call1 (f := 37) (x := .tmp 108) (v := .pointer (some ⟨g, 0, none⟩)) (by rfl) rfl rfl enter37 (done_v w _ g l bad HR7.out) ?_
                  rintro u3 y3 ⟨rfl, rfl⟩
                  refine hK.out _ _ (HX7.out) (fun hHeld => ?_)
                  clear hK K
                  try simp only [Act.put, List.setIfInBounds_toArray, List.set_cons_zero, List.set_cons_succ]
                  refine wpAnyH_ready (rs := [17]) (by kernel_rfl) (by simp) ?_
                  refine AllReadyH.cons (o := { dst := some 111, op := Go.Op.call { callee := Go.Callee.value (Go.Operand.func 38), args := #[Go.Operand.tmp 110], argTypes := #[46] }, type := 4, pos := "law.go:84", after := #[{ on := 16, ground := Go.Ground.data }, { on := 15, ground := Go.Ground.chain }, { on := 13, ground := Go.Ground.guard }], guard := some (13, false) }) rfl (fun K hK => ?_) AllReadyH.nil
                  refine step_call1 (f := 38) (x := .tmp 110) (v := .agg #[.slice A l.length c, .bool bad]) (by rfl) rfl rfl enter38 (inDone_v A l.length c bad _) ?_
                  rintro u4 y4 ⟨rfl, hb8⟩
                  have HR7 := Aside0.mk (HR7.out.on hb8)
                  have HX7 := Aside0.mk ((hb8.block _ (blk_lt HX7.out)).trans HX7.out)
                  clear hb8
                  refine hK.out _ _ (HX7.out) (fun hHeld => ?_)
                  clear hK K
                  try simp only [Act.put, List.setIfInBounds_toArray, List.set_cons_zero, List.set_cons_succ]
                  refine wpAnyH_take (i := 18) (oi := { dst := some 112, op := Go.Op.binOp Go.BinOp.neq 4 (Go.Operand.tmp 109) (Go.Operand.tmp 111) 4, type := 4, pos := "law.go:84", after := #[{ on := 15, ground := Go.Ground.data }, { on := 17, ground := Go.Ground.data }, { on := 13, ground := Go.Ground.guard }], guard := some (13, false) }) (v := _) rfl (by kernel_rfl) (by kernel_rfl) (by kernel_rfl) (fun _ _ _ h => h) ((show YieldsIf _ _ _ _ (.bool false) _ from Or.inl ⟨by rfl, fun w hSw => by have hdd := HDD.out; go_simp; try simp [hdd]⟩)) hHeld ?_
                  try simp only [Act.put, List.setIfInBounds_toArray, List.set_cons_zero, List.set_cons_succ]
                  refine wpAnyH_take (i := 19) (oi := { dst := some 113, op := Go.Op.pick (Go.Operand.tmp 107) (Go.Operand.const (Go.Value.bool true)) (Go.Operand.tmp 112), type := 4, pos := "law.go:84", after := #[{ on := 13, ground := Go.Ground.data }, { on := 18, ground := Go.Ground.data }], guard := none }) (v := ?_) rfl (by kernel_rfl) (by kernel_rfl) (by kernel_rfl) (fun _ _ _ h => h) (Or.inl ⟨by rfl, ?_⟩) hHeld ?_
                  rotate_left
                  · intro w hSw; go_simp; with_reducible rfl
                  try simp only [Act.put, List.setIfInBounds_toArray, List.set_cons_zero, List.set_cons_succ]
                  refine wpAnyH_done (by kernel_rfl) ?_ _
                  refine NoPanic.normal ?_
                  go_wp2
                  go_roundw
                  case rel => exact ⟨k + 1, l, bad, A, c, by go_num, by omega, HR7, HX7, HC, HCC, HBY⟩
                  case measure => simp [intOf]; omega
    · obtain rfl : k = l1.length := by omega
      go_wp2
      go_ret
      exact ⟨rfl, HBw.out⟩
end Go.Proofs.Ytighpoelpedneaa

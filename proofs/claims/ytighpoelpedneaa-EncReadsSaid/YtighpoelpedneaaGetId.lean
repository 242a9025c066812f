import Derived.Test.YtighpoelpedneaaGetFour
namespace Go.Proofs.Ytighpoelpedneaa
open Go Go.RowKit Go.Proofs.YtighpoelpedneaaW.PrintWords
set_option linter.unusedVariables false
set_option linter.unusedSimpArgs false

theorem enter40 (vs : Array Value) (W : World) : (callFunc 40 vs).run Try.prog W = .ok (.enter 40 vs) W := enter_of Try.func40 (by rfl) (by decide +kernel) vs W
theorem failed_v (w : World) : Calls Try.prog 40 #[] w fun e w' => ∃ u, e = .returned u ∧ u = .agg #[.slice none 0 0, .bool true] ∧ Below w.heap.size w w' :=
  (failed_any w).mono fun _ _ ⟨he, hw⟩ => ⟨_, he, rfl, hw⟩
theorem size31z : (Try.prog.info? 31).map (·.size) = some (zeros32.map (Value.int .u8)).toArray.size := size31
theorem below_weaken2 {w W4 w1 : World} (h : Below w.heap.size w W4) (k : Below W4.heap.size W4 w1) : Below w.heap.size w w1 := below_step h k
theorem ret_two {fn : Func} {R : Ending → World → Prop} {p q : Tmp} (h : fn.results = #[.cell p 31, .cell q 46]) {a : Act} {W : World} (g k : Nat) (fr gr : Nat × Nat) (cs : Array Value) (x y : Value) {t u : TypeId}
    (hp : a.tmps.getD p undef = .pointer (some ⟨g, 0, none⟩)) (hq : a.tmps.getD q undef = .pointer (some ⟨k, 0, none⟩)) (hd : a.defers = []) (hg : W.heap[g]? = some (.cells cs t fr)) (hk : W.heap[k]? = some (.cells #[x, y] u gr))
    (hs : (Try.prog.info? 31).map (·.size) = some cs.size)
    (hR : R (.returned (.tuple #[.agg cs, .agg #[x, y]])) W) : bodyPost Try.prog fn R .ret a W := by
  refine bodyPost_ret (v := .tuple #[.agg cs, .agg #[x, y]]) ?_ hd hR
  rw [results_two_cells h, hp, hq]
  obtain ⟨fs, hfs⟩ := struct46
  simp [asAddr, Result.andThen, run_loadVar_row W g t 31 cs fr _ hg Try.underlying31 rfl hs, run_loadVar_row W k u 46 #[x, y] gr _ hk hfs rfl size46]
def preL (l : List Int) (i : Nat) : List Int := l.take i ++ List.replicate (32 - i) 0
theorem preL_step (l : List Int) (i : Nat) (hi : i < 32) (hl : i < l.length) : (preL l i).set i (rd l i) = preL l (i + 1) := by
  unfold preL
  rw [show 32 - i = (32 - (i + 1)) + 1 by omega, List.replicate_succ, List.set_append_right _ _ (by rw [List.length_take]; omega), List.length_take, Nat.min_eq_left (by omega), Nat.sub_self, List.set_cons_zero,
    List.take_succ_eq_append_getElem hl, List.append_assoc]
  simp [rd, hl]
theorem preL_len (l : List Int) (i : Nat) (hi : i ≤ 32) (hl : i ≤ l.length) : (preL l i).length = 32 := by
  simp [preL]; omega

set_option maxHeartbeats 8000000 in
set_option maxRecDepth 20000 in
theorem getId_any (w0 w : World) (A : Option Addr) (c : Nat) (l : List Int) (bad : Bool) (hC : (Kd.int .u8).C w0 A l.length l) (hc : l.length ≤ c) (hB : Bytes l) (hb : Below w0.heap.size w0 w) :
    Calls Try.prog 30 #[.agg #[.slice A l.length c, .bool bad]] w (InPost w0 w (.agg ((idR l bad).1.map (Value.int .u8)).toArray) (idR l bad).2.1 (idR l bad).2.2) := by
  have HBW := Aside0.mk hb
  have HC := Aside0.mk hC
  have HCC := Aside0.mk hc
  have HBY := Aside0.mk hB
  have h31 := Try.underlying31
  have HZL := Aside0.mk (show (Try.prog.info? 31).map (·.size) = some (zeros32.map (Value.int .u8)).length from size31)
  have ZONE := Aside0.mk (show (zeros32.map (Value.int .u8)).toArray.all (·.oneCell') = true by simp [Value.oneCell'])
  have ZZ := Aside0.mk (show (zeros32.map (Value.int .u8)).toArray.size = (zeros32.map (Value.int .u8)).toArray.size from Eq.refl _)
  have ZZ2 := Aside0.mk (show (zeros32.map (Value.int .u8)).toArray.toList.length = (zeros32.map (Value.int .u8)).toArray.size from Array.length_toList)
  have HONE := Aside0.mk (show (#[.slice none 0 0, .bool true] : Array Value).all (·.oneCell') = true by simp [Value.oneCell'])
  obtain ⟨W4, hW4, h1, h2, h3, h4, hb4⟩ : ∃ W4, (((w.alloc (.cells #[.slice A l.length c, .bool bad] 46)).alloc (.cells (zeros32.map (Value.int .u8)).toArray 31)).alloc (.cells #[.slice none 0 0, .bool false] 46)).alloc (.cells (zeros32.map (Value.int .u8)).toArray 31) = W4 ∧
      W4.heap[w.heap.size]? = some (.cells #[.slice A l.length c, .bool bad] 46 (0, 0)) ∧ W4.heap[w.heap.size + 1]? = some (.cells (zeros32.map (Value.int .u8)).toArray 31 (0, 0)) ∧ W4.heap[w.heap.size + 1 + 1]? = some (.cells #[.slice none 0 0, .bool false] 46 (0, 0)) ∧
      W4.heap[w.heap.size + 1 + 1 + 1]? = some (.cells (zeros32.map (Value.int .u8)).toArray 31 (0, 0)) ∧ Below w.heap.size w W4 := by
    refine ⟨_, rfl, ?_, ?_, ?_, ?_, ?_⟩
    · rw [heap_alloc_old _ _ (by simp; omega), heap_alloc_old _ _ (by simp; omega)]; exact heap_alloc2_old w _ _
    · rw [heap_alloc_old _ _ (by simp), heap_alloc_old _ _ (by simp)]; exact heap_alloc2_new w _ _
    · rw [heap_alloc_old _ _ (by simp)]
      have := heap_alloc_new ((w.alloc (.cells #[.slice A l.length c, .bool bad] 46)).alloc (.cells (zeros32.map (Value.int .u8)).toArray 31)) (.cells #[.slice none 0 0, .bool false] 46)
      simpa using this
    · have := heap_alloc_new (((w.alloc (.cells #[.slice A l.length c, .bool bad] 46)).alloc (.cells (zeros32.map (Value.int .u8)).toArray 31)).alloc (.cells #[.slice none 0 0, .bool false] 46)) (.cells (zeros32.map (Value.int .u8)).toArray 31)
      simpa using this
    · exact below_alloc (below_alloc (below_alloc (below_alloc (Below.refl _ _) _) _) _) _
  have H1 := Aside0.mk h1
  have H2 := Aside0.mk h2
  have H3 := Aside0.mk h3
  have H4 := Aside0.mk h4
  have HB4 := Aside0.mk hb4
  have HW4 := Aside0.mk hW4
  have HL4 := Aside0.mk (show w.heap.size + 1 + 1 + 1 < W4.heap.size from (Array.getElem?_eq_some_iff.1 h4).1)
  have HL3 := Aside0.mk (show w.heap.size + 1 + 1 < W4.heap.size by have := HL4.out; omega)
  have HL2 := Aside0.mk (show w.heap.size + 1 < W4.heap.size by have := HL4.out; omega)
  have hx0 : W4.cell? ⟨w.heap.size, 0, none⟩ = some (.slice A l.length c) := cell_of_row W4 w.heap.size 0 #[.slice A l.length c, .bool bad] 46 (0, 0) h1
  have hx1 : W4.cell? ⟨w.heap.size, 1, none⟩ = some (.bool bad) := cell_of_row W4 w.heap.size 1 #[.slice A l.length c, .bool bad] 46 (0, 0) h1
  clear hC hB hb hc h1 h2 h3 h4 hb4 hW4
  by_cases hbad : bad = true ∨ l.length < 32
  · have HT := Aside0.mk (show idR l bad = (zeros32, [], true) from if_pos hbad)
    cases bad with
    | true =>
      clear hbad
      go_enter Try.func30, Try.ntmps30
      go_wp2_with (first | ((with_reducible refine arm_store_new (ty := 31) (x := .tmp 4) (y := .tmp 6) (c' := (zeros32.map (Value.int .u8)).toArray) ?_ ?_ size31z ?_ ZONE.out ?_); (show Value.pointer (some ⟨w.heap.size + 1 + 1 + 1, 0, none⟩) = _; simp); rfl; rfl))
      generalize hE : (((w.alloc _).alloc _).alloc _).alloc _ = E
      obtain rfl : E = W4 := hE.symm.trans HW4.out
      clear hE HW4
      refine wp_region_noPanic ?_
      refine wp_region_held_drew (S := (fun W => W.heap[w.heap.size + 1 + 1 + 1]? = some (.cells (zeros32.map (Value.int .u8)).toArray 31 (0, 0)))) (by kernel_rfl) ?_ (fun hHeld => ?_)
      · exact H4.out
      refine wpAnyH_take (i := 0) (oi := { dst := some 15, op := Go.Op.load 31 (Go.Operand.tmp 4), type := 31, pos := "ref.go:92", after := #[], guard := none }) (v := _) rfl (by kernel_rfl) (by kernel_rfl) (by kernel_rfl) (fun _ _ _ h => h) (yieldsIf_load_mid (by rfl) 31 (.tmp 4) rfl (w.heap.size + 1 + 1 + 1) 0 rfl (zeros32.map (Value.int .u8)) _ (fun _ h => range_blk h) h31 rfl HZL.out) hHeld ?_
      try simp only [Act.put, List.setIfInBounds_toArray, List.set_cons_zero, List.set_cons_succ]
      refine wpAnyH_ready (rs := [1]) (by kernel_rfl) (by simp) ?_
      refine AllReadyH.cons (o := { dst := some 16, op := Go.Op.call { callee := Go.Callee.value (Go.Operand.func 40), args := #[], argTypes := #[] }, type := 46, pos := "ref.go:92", after := #[], guard := none }) rfl (fun K hK => ?_) AllReadyH.nil
      refine step_call0 (f := 40) (by rfl) rfl enter40 (failed_v _) ?_
      rintro u1 w1 ⟨rfl, hb1⟩
      have HBX := Aside0.mk (below_step (below_drew1 (Below.refl E.heap.size E)) hb1)
      have Y2 := Aside0.mk ((HBX.out.block _ HL2.out).trans H2.out)
      have Y3 := Aside0.mk ((HBX.out.block _ HL3.out).trans H3.out)
      have Y4 := Aside0.mk ((HBX.out.block _ HL4.out).trans H4.out)
      clear hb1
      refine hK.out _ _ (Y4.out) (fun hHeld => ?_)
      clear hK K
      try simp only [Act.put, List.setIfInBounds_toArray, List.set_cons_zero, List.set_cons_succ]
      refine wpAnyH_ready (rs := [2]) (by kernel_rfl) (by simp) ?_
      refine AllReadyH.cons (o := { dst := none, op := Go.Op.store 31 (Go.Operand.tmp 2) (Go.Operand.tmp 15), type := 0, pos := "ref.go:92", after := #[{ on := 0, ground := Go.Ground.data }, { on := 1, ground := Go.Ground.chain }, { on := 0, ground := Go.Ground.phase }, { on := 1, ground := Go.Ground.textOnly Go.Departure.lateStoresUnsure }], guard := none }) rfl (fun K hK => ?_) AllReadyH.nil
      refine step_store ?_ 31 (.tmp 2) (.tmp 15) ?_ (w.heap.size + 1) (zeros32.map (Value.int .u8)).toArray ?_ ?_ ?_ size31z ZONE.out ?_
      · rfl
      · rfl
      · rfl
      · rfl
      · exact there_cs Y2.out (Eq.refl _)
      have Y2 := Aside0.mk (setCells_row Y2.out (zeros32.map (Value.int .u8)).toArray.toList ZZ2.out)
      have Y3 := Aside0.mk ((setCells_other (g := w.heap.size + 1) (by omega) (vs := (zeros32.map (Value.int .u8)).toArray.toList) (o := 0)).trans Y3.out)
      have Y4 := Aside0.mk ((setCells_other (g := w.heap.size + 1) (by omega) (vs := (zeros32.map (Value.int .u8)).toArray.toList) (o := 0)).trans Y4.out)
      have HBF := Aside0.mk (below_setCells (g := w.heap.size + 1) (by omega) (zeros32.map (Value.int .u8)).toArray.toList 0 _ (below_weaken2 HB4.out HBX.out))
      generalize w1.setCells (w.heap.size + 1) 0 (zeros32.map (Value.int .u8)).toArray.toList = Ws at *
      refine hK.out _ _ (Y4.out) (fun hHeld => ?_)
      clear hK K
      try simp only [Act.put, List.setIfInBounds_toArray, List.set_cons_zero, List.set_cons_succ]
      refine wpAnyH_ready (rs := [3]) (by kernel_rfl) (by simp) ?_
      refine AllReadyH.cons (o := { dst := none, op := Go.Op.store 46 (Go.Operand.tmp 3) (Go.Operand.tmp 16), type := 0, pos := "ref.go:92", after := #[{ on := 1, ground := Go.Ground.data }, { on := 2, ground := Go.Ground.chain }, { on := 0, ground := Go.Ground.phase }, { on := 1, ground := Go.Ground.phase }, { on := 2, ground := Go.Ground.phase }], guard := none }) rfl (fun K hK => ?_) AllReadyH.nil
      refine step_store (by rfl) 46 (.tmp 3) (.tmp 16) rfl (w.heap.size + 1 + 1) #[.slice none 0 0, .bool true] rfl rfl (there_cs Y3.out rfl) size46 HONE.out ?_
      have Y2 := Aside0.mk ((setCells_other (g := w.heap.size + 1 + 1) (by omega) (vs := [.slice none 0 0, .bool true]) (o := 0)).trans Y2.out)
      have Y3 := Aside0.mk (setCells_row Y3.out [.slice none 0 0, .bool true] rfl)
      have Y4 := Aside0.mk ((setCells_other (g := w.heap.size + 1 + 1) (by omega) (vs := [.slice none 0 0, .bool true]) (o := 0)).trans Y4.out)
      refine hK.out _ _ (Y4.out) (fun hHeld => ?_)
      clear hK K
      try simp only [Act.put, List.setIfInBounds_toArray, List.set_cons_zero, List.set_cons_succ]
      refine wpAnyH_done (by kernel_rfl) ?_ _
      refine NoPanic.normal ?_
      go_wp2
      refine ret_two (p := 2) (q := 3) ?_ (w.heap.size + 1) (w.heap.size + 1 + 1) (0, 0) (0, 0) (zeros32.map (Value.int .u8)).toArray (.slice none 0 0) (.bool true) ?_ ?_ ?_ Y2.out Y3.out size31z ?_
      all_goals first | rfl | skip
      rw [HT.out]
      exact ⟨_, rfl, inv_failed w0, below_setCells (by omega) _ _ _ HBF.out⟩
    | false =>
      have hlt : (l.length : Int) < 32 := by rcases hbad with h | h; cases h; omega
      clear hbad
      go_enter Try.func30, Try.ntmps30
      go_wp2_with (first | ((with_reducible refine arm_store_new (ty := 31) (x := .tmp 4) (y := .tmp 6) (c' := (zeros32.map (Value.int .u8)).toArray) ?_ ?_ size31z ?_ ZONE.out ?_); (show Value.pointer (some ⟨w.heap.size + 1 + 1 + 1, 0, none⟩) = _; simp); rfl; rfl))
      generalize hE : (((w.alloc _).alloc _).alloc _).alloc _ = E
      obtain rfl : E = W4 := hE.symm.trans HW4.out
      clear hE HW4
      refine wp_region_noPanic ?_
      refine wp_region_held_drew (S := (fun W => W.heap[w.heap.size + 1 + 1 + 1]? = some (.cells (zeros32.map (Value.int .u8)).toArray 31 (0, 0)))) (by kernel_rfl) ?_ (fun hHeld => ?_)
      · exact H4.out
      refine wpAnyH_take (i := 0) (oi := { dst := some 15, op := Go.Op.load 31 (Go.Operand.tmp 4), type := 31, pos := "ref.go:92", after := #[], guard := none }) (v := _) rfl (by kernel_rfl) (by kernel_rfl) (by kernel_rfl) (fun _ _ _ h => h) (yieldsIf_load_mid (by rfl) 31 (.tmp 4) rfl (w.heap.size + 1 + 1 + 1) 0 rfl (zeros32.map (Value.int .u8)) _ (fun _ h => range_blk h) h31 rfl HZL.out) hHeld ?_
      try simp only [Act.put, List.setIfInBounds_toArray, List.set_cons_zero, List.set_cons_succ]
      refine wpAnyH_ready (rs := [1]) (by kernel_rfl) (by simp) ?_
      refine AllReadyH.cons (o := { dst := some 16, op := Go.Op.call { callee := Go.Callee.value (Go.Operand.func 40), args := #[], argTypes := #[] }, type := 46, pos := "ref.go:92", after := #[], guard := none }) rfl (fun K hK => ?_) AllReadyH.nil
      refine step_call0 (f := 40) (by rfl) rfl enter40 (failed_v _) ?_
      rintro u1 w1 ⟨rfl, hb1⟩
      have HBX := Aside0.mk (below_step (below_drew1 (Below.refl E.heap.size E)) hb1)
      have Y2 := Aside0.mk ((HBX.out.block _ HL2.out).trans H2.out)
      have Y3 := Aside0.mk ((HBX.out.block _ HL3.out).trans H3.out)
      have Y4 := Aside0.mk ((HBX.out.block _ HL4.out).trans H4.out)
      clear hb1
      refine hK.out _ _ (Y4.out) (fun hHeld => ?_)
      clear hK K
      try simp only [Act.put, List.setIfInBounds_toArray, List.set_cons_zero, List.set_cons_succ]
      refine wpAnyH_ready (rs := [2]) (by kernel_rfl) (by simp) ?_
      refine AllReadyH.cons (o := { dst := none, op := Go.Op.store 31 (Go.Operand.tmp 2) (Go.Operand.tmp 15), type := 0, pos := "ref.go:92", after := #[{ on := 0, ground := Go.Ground.data }, { on := 1, ground := Go.Ground.chain }, { on := 0, ground := Go.Ground.phase }, { on := 1, ground := Go.Ground.textOnly Go.Departure.lateStoresUnsure }], guard := none }) rfl (fun K hK => ?_) AllReadyH.nil
      refine step_store ?_ 31 (.tmp 2) (.tmp 15) ?_ (w.heap.size + 1) (zeros32.map (Value.int .u8)).toArray ?_ ?_ ?_ size31z ZONE.out ?_
      · rfl
      · rfl
      · rfl
      · rfl
      · exact there_cs Y2.out (Eq.refl _)
      have Y2 := Aside0.mk (setCells_row Y2.out (zeros32.map (Value.int .u8)).toArray.toList ZZ2.out)
      have Y3 := Aside0.mk ((setCells_other (g := w.heap.size + 1) (by omega) (vs := (zeros32.map (Value.int .u8)).toArray.toList) (o := 0)).trans Y3.out)
      have Y4 := Aside0.mk ((setCells_other (g := w.heap.size + 1) (by omega) (vs := (zeros32.map (Value.int .u8)).toArray.toList) (o := 0)).trans Y4.out)
      have HBF := Aside0.mk (below_setCells (g := w.heap.size + 1) (by omega) (zeros32.map (Value.int .u8)).toArray.toList 0 _ (below_weaken2 HB4.out HBX.out))
      generalize w1.setCells (w.heap.size + 1) 0 (zeros32.map (Value.int .u8)).toArray.toList = Ws at *
      refine hK.out _ _ (Y4.out) (fun hHeld => ?_)
      clear hK K
      try simp only [Act.put, List.setIfInBounds_toArray, List.set_cons_zero, List.set_cons_succ]
      refine wpAnyH_ready (rs := [3]) (by kernel_rfl) (by simp) ?_
      refine AllReadyH.cons (o := { dst := none, op := Go.Op.store 46 (Go.Operand.tmp 3) (Go.Operand.tmp 16), type := 0, pos := "ref.go:92", after := #[{ on := 1, ground := Go.Ground.data }, { on := 2, ground := Go.Ground.chain }, { on := 0, ground := Go.Ground.phase }, { on := 1, ground := Go.Ground.phase }, { on := 2, ground := Go.Ground.phase }], guard := none }) rfl (fun K hK => ?_) AllReadyH.nil
      refine step_store (by rfl) 46 (.tmp 3) (.tmp 16) rfl (w.heap.size + 1 + 1) #[.slice none 0 0, .bool true] rfl rfl (there_cs Y3.out rfl) size46 HONE.out ?_
      have Y2 := Aside0.mk ((setCells_other (g := w.heap.size + 1 + 1) (by omega) (vs := [.slice none 0 0, .bool true]) (o := 0)).trans Y2.out)
      have Y3 := Aside0.mk (setCells_row Y3.out [.slice none 0 0, .bool true] rfl)
      have Y4 := Aside0.mk ((setCells_other (g := w.heap.size + 1 + 1) (by omega) (vs := [.slice none 0 0, .bool true]) (o := 0)).trans Y4.out)
      refine hK.out _ _ (Y4.out) (fun hHeld => ?_)
      clear hK K
      try simp only [Act.put, List.setIfInBounds_toArray, List.set_cons_zero, List.set_cons_succ]
      refine wpAnyH_done (by kernel_rfl) ?_ _
      refine NoPanic.normal ?_
      go_wp2
      refine ret_two (p := 2) (q := 3) ?_ (w.heap.size + 1) (w.heap.size + 1 + 1) (0, 0) (0, 0) (zeros32.map (Value.int .u8)).toArray (.slice none 0 0) (.bool true) ?_ ?_ ?_ Y2.out Y3.out size31z ?_
      all_goals first | rfl | skip
      rw [HT.out]
      exact ⟨_, rfl, inv_failed w0, below_setCells (by omega) _ _ _ HBF.out⟩
  · obtain rfl : bad = false := by cases bad with | false => rfl | true => exact absurd (.inl rfl) hbad
    have hl32 : 32 ≤ l.length := by omega
    have hl32' : ¬ (l.length : Int) < 32 := by omega
    have HT := Aside0.mk (show idR l false = (l.take 32, l.drop 32, false) from if_neg hbad)
    clear hbad
    obtain ⟨ad, hA, _⟩ := at_nat HC.out 0 (by omega)
    subst hA
    obtain ⟨sa, hsa⟩ : ∃ sa, (if c = 32 then some ad else (some ad).map (·.add 32)) = sa := ⟨_, rfl⟩
    have HSV1 := Aside0.mk (show (#[.slice sa (l.length - 32) (c - 32), .bool false] : Array Value).all (·.oneCell') = true by simp [Value.oneCell'])
    have HTLN := Aside0.mk (show (l.take 32).length = 32 by rw [List.length_take]; omega)
    have HTL := Aside0.mk (show (Try.prog.info? 31).map (·.size) = some ((l.take 32).map (Value.int .u8)).length by rw [size31, List.length_map, HTLN.out])
    have HTS := Aside0.mk (show (Try.prog.info? 31).map (·.size) = some ((l.take 32).map (Value.int .u8)).toArray.size by rw [size31, List.size_toArray, List.length_map, HTLN.out])
    have TONE := Aside0.mk (show ((l.take 32).map (Value.int .u8)).toArray.all (·.oneCell') = true from all_oneCell_toArray (nums_one _))
    have HTZ := Aside0.mk (show (zeros32.map (Value.int .u8)).toArray.size = ((l.take 32).map (Value.int .u8)).toArray.size by simp [zeros32]; omega)
    have HTZ2 := Aside0.mk (show ((l.take 32).map (Value.int .u8)).toArray.toList.length = (zeros32.map (Value.int .u8)).toArray.size by simp [zeros32]; omega)
    go_enter Try.func30, Try.ntmps30
    go_wp2_with (first | ((with_reducible refine arm_store_new (ty := 31) (x := .tmp 4) (y := .tmp 6) (c' := (zeros32.map (Value.int .u8)).toArray) ?_ ?_ size31z ?_ ZONE.out ?_); (show Value.pointer (some ⟨w.heap.size + 1 + 1 + 1, 0, none⟩) = _; simp); rfl; rfl))
    generalize hE : (((w.alloc _).alloc _).alloc _).alloc _ = E
    obtain rfl : E = W4 := hE.symm.trans HW4.out
    clear hE HW4
    go_loopw [5] (fun v wr => ∃ i : Nat, i ≤ 32 ∧ v = .int .i64 i ∧ Aside0 (wr.heap[w.heap.size]? = some (.cells #[.slice (some ad) l.length c, .bool false] 46 (0, 0))) ∧ Aside0 (wr.heap[w.heap.size + 1]? = some (.cells (zeros32.map (Value.int .u8)).toArray 31 (0, 0))) ∧
      Aside0 (wr.heap[w.heap.size + 1 + 1]? = some (.cells #[.slice none 0 0, .bool false] 46 (0, 0))) ∧ Aside0 (wr.heap[w.heap.size + 1 + 1 + 1]? = some (.cells ((preL l i).map (Value.int .u8)).toArray 31 (0, 0))) ∧ Aside0 (Below w.heap.size w wr)) (fun v wr => (32 - intOf v).toNat)
    case atStart => exact ⟨0, by omega, rfl, H1, H2, H3, ⟨by simpa [preL, zeros32] using H4.out⟩, HB4⟩
    case round =>
      clear H1 H2 H3 H4 HB4 HL2 HL3 HL4 hx0 hx1
      obtain ⟨i, hi, rfl, H1, H2, H3, H4, HBR⟩ := hrel
      have hx0 : wr.cell? ⟨w.heap.size, 0, none⟩ = some (.slice (some ad) l.length c) := cell_of_row wr w.heap.size 0 #[.slice (some ad) l.length c, .bool false] 46 (0, 0) H1.out
      by_cases hlt : i < 32
      · have hil : i < l.length := by omega
        obtain ⟨ad', e, hx⟩ := at_nat (Kd.C_below HC.out (below_step HBW.out HBR.out)) i hil
        injection e with e
        subst e
        have hPL := Aside0.mk (preL_len l i hi (by omega))
        have hPS := Aside0.mk (preL_step l i hlt hil)
        obtain ⟨b, hb⟩ : ∃ b, rd l i = b := ⟨_, rfl⟩
        rw [hb] at hx hPS
        clear hb
        have hcs : (wr.cell? ⟨w.heap.size + 1 + 1 + 1, i, none⟩).isSome = true := by
          rw [cell_of_row _ _ _ _ 31 (0, 0) H4.out]
          have : i < (preL l i).length := by rw [hPL.out]; exact hlt
          simp [this]
        obtain ⟨o, ho⟩ := Option.isSome_iff_exists.1 hcs
        have hfz : wr.frozen? ⟨w.heap.size + 1 + 1 + 1, i, none⟩ = false := by simp [World.frozen?, H4.out]
        clear hcs
        go_wp2
        go_roundw
        case rel => exact ⟨i + 1, by omega, by go_num, ⟨(heap_setCell_other wr _ _ _ (by first | (simp; done) | (simp; omega))).trans H1.out⟩, ⟨(heap_setCell_other wr _ _ _ (by first | (simp; done) | (simp; omega))).trans H2.out⟩, ⟨(heap_setCell_other wr _ _ _ (by first | (simp; done) | (simp; omega))).trans H3.out⟩, ⟨by
          rw [heap_setCell_same wr _ _ _ 31 _ H4.out, ← hPS.out]; simp [List.map_set]⟩, ⟨HBR.out.setCell (p := ⟨w.heap.size + 1 + 1 + 1, i, none⟩) (by show w.heap.size ≤ w.heap.size + 1 + 1 + 1; omega) _⟩⟩
        case measure => simp [intOf]; omega
      · obtain rfl : i = 32 := by omega
        have H4 := Aside0.mk (show wr.heap[w.heap.size + 1 + 1 + 1]? = some (.cells ((l.take 32).map (Value.int .u8)).toArray 31 (0, 0)) by simpa [preL] using H4.out)
        go_wp2_with fail
        have Y1 := Aside0.mk (show wr.drew.heap[w.heap.size]? = _ from H1.out)
        have Y2 := Aside0.mk (show wr.drew.heap[w.heap.size + 1]? = _ from H2.out)
        have Y3 := Aside0.mk (show wr.drew.heap[w.heap.size + 1 + 1]? = _ from H3.out)
        have Y4 := Aside0.mk (show wr.drew.heap[w.heap.size + 1 + 1 + 1]? = _ from H4.out)
        refine wp_region_noPanic ?_
        refine wp_region_held_drew (S := (fun W => W.heap[w.heap.size + 1 + 1 + 1]? = some (.cells ((l.take 32).map (Value.int .u8)).toArray 31 (0, 0)) ∧ W.cell? ⟨w.heap.size, 0, none⟩ = some (.slice (some ad) l.length c))) (by kernel_rfl) ?_ (fun hHeld => ?_)
        · exact ⟨Y4.out, cell_of_row _ w.heap.size 0 #[.slice (some ad) l.length c, .bool false] 46 (0, 0) Y1.out⟩
        refine wpAnyH_take (i := 0) (oi := { dst := some 28, op := Go.Op.load 31 (Go.Operand.tmp 4), type := 31, pos := "ref.go:97", after := #[], guard := none }) (v := _) rfl (by kernel_rfl) (by kernel_rfl) (by kernel_rfl) (fun _ _ _ h => h) (yieldsIf_load_mid (by rfl) 31 (.tmp 4) rfl (w.heap.size + 1 + 1 + 1) 0 rfl ((l.take 32).map (Value.int .u8)) _ (fun _ h => range_blk h.1) h31 rfl HTL.out) hHeld ?_
        try simp only [Act.put, List.setIfInBounds_toArray, List.set_cons_zero, List.set_cons_succ]
        refine wpAnyH_take (i := 1) (oi := { dst := some 29, op := Go.Op.fieldAddr 46 (Go.Operand.tmp 1) 0, type := 0, pos := "ref.go:97", after := #[], guard := none }) (v := ?_) rfl (by kernel_rfl) (by kernel_rfl) (by kernel_rfl) (fun _ _ _ h => h) (Or.inl ⟨by rfl, ?_⟩) hHeld ?_
        rotate_left
        · intro w hSw; go_simp; with_reducible rfl
        try simp only [Act.put, List.setIfInBounds_toArray, List.set_cons_zero, List.set_cons_succ]
        refine wpAnyH_take (i := 2) (oi := { dst := some 30, op := Go.Op.load 22 (Go.Operand.tmp 29), type := 22, pos := "ref.go:97", after := #[{ on := 1, ground := Go.Ground.data }], guard := none }) (v := _) rfl (by kernel_rfl) (by kernel_rfl) (by kernel_rfl) (fun _ _ _ h => h) ((show YieldsIf _ _ _ _ (.slice (some ad) l.length c) _ from Or.inl ⟨by rfl, fun w hSw => by have hc := hSw.2; go_simp⟩)) hHeld ?_
        try simp only [Act.put, List.setIfInBounds_toArray, List.set_cons_zero, List.set_cons_succ]
        refine wpAnyH_take (i := 3) (oi := { dst := some 31, op := Go.Op.slice 22 (Go.Operand.tmp 30) (some (Go.Operand.const (Go.Value.int Go.IntKind.i64 32))) none none, type := 22, pos := "ref.go:97", after := #[{ on := 2, ground := Go.Ground.data }], guard := none }) (v := _) rfl (by kernel_rfl) (by kernel_rfl) (by kernel_rfl) (fun _ _ _ h => h) ((show YieldsIf _ _ _ _ (.slice sa (l.length - 32) (c - 32)) _ from hsa ▸ yields_low (by rfl) (.tmp 30) (.const (.int .i64 32)) rfl (some ad) l.length c 32 .i64 rfl rfl hl32)) hHeld ?_
        try simp only [Act.put, List.setIfInBounds_toArray, List.set_cons_zero, List.set_cons_succ]
        refine wpAnyH_take (i := 4) (oi := { dst := some 32, op := Go.Op.build 46 #[(0, Go.Operand.tmp 31), (1, Go.Operand.const (Go.Value.bool false))], type := 46, pos := "ref.go:97", after := #[{ on := 3, ground := Go.Ground.data }, { on := 5, ground := Go.Ground.gcOnly Go.Departure.lateStores }], guard := none }) (v := ?_) rfl (by kernel_rfl) (by kernel_rfl) (by kernel_rfl) (fun _ _ _ h => h) (Or.inl ⟨by rfl, ?_⟩) hHeld ?_
        rotate_left
        · intro w hSw; go_simp; with_reducible rfl
        try simp only [Act.put, List.setIfInBounds_toArray, List.set_cons_zero, List.set_cons_succ]
        refine wpAnyH_ready (rs := [5]) (by kernel_rfl) (by simp) ?_
        refine AllReadyH.cons (o := { dst := none, op := Go.Op.store 31 (Go.Operand.tmp 2) (Go.Operand.tmp 28), type := 0, pos := "ref.go:97", after := #[{ on := 0, ground := Go.Ground.data }, { on := 0, ground := Go.Ground.phase }, { on := 1, ground := Go.Ground.textOnly Go.Departure.lateStores }, { on := 2, ground := Go.Ground.textOnly Go.Departure.lateStores }, { on := 3, ground := Go.Ground.textOnly Go.Departure.lateStoresUnsure }, { on := 4, ground := Go.Ground.textOnly Go.Departure.lateStores }], guard := none }) rfl (fun K hK => ?_) AllReadyH.nil
        refine step_store ?_ 31 (.tmp 2) (.tmp 28) ?_ (w.heap.size + 1) ((l.take 32).map (Value.int .u8)).toArray ?_ ?_ ?_ HTS.out TONE.out ?_
        · rfl
        · rfl
        · rfl
        · rfl
        · exact there_cs Y2.out HTZ.out
        have Y2 := Aside0.mk (setCells_row Y2.out ((l.take 32).map (Value.int .u8)).toArray.toList HTZ2.out)
        have Y1 := Aside0.mk ((setCells_other (g := w.heap.size + 1) (by omega) (vs := ((l.take 32).map (Value.int .u8)).toArray.toList) (o := 0)).trans Y1.out)
        have Y3 := Aside0.mk ((setCells_other (g := w.heap.size + 1) (by omega) (vs := ((l.take 32).map (Value.int .u8)).toArray.toList) (o := 0)).trans Y3.out)
        have Y4 := Aside0.mk ((setCells_other (g := w.heap.size + 1) (by omega) (vs := ((l.take 32).map (Value.int .u8)).toArray.toList) (o := 0)).trans Y4.out)
        have HBF := Aside0.mk (below_setCells (g := w.heap.size + 1) (by omega) ((l.take 32).map (Value.int .u8)).toArray.toList 0 _ (below_drew1 HBR.out))
        generalize wr.drew.setCells (w.heap.size + 1) 0 ((l.take 32).map (Value.int .u8)).toArray.toList = Ws at *
        refine hK.out _ _ (⟨Y4.out, cell_of_row _ w.heap.size 0 #[.slice (some ad) l.length c, .bool false] 46 (0, 0) Y1.out⟩) (fun hHeld => ?_)
        clear hK K
        try simp only [Act.put, List.setIfInBounds_toArray, List.set_cons_zero, List.set_cons_succ]
        refine wpAnyH_ready (rs := [6]) (by kernel_rfl) (by simp) ?_
        refine AllReadyH.cons (o := { dst := none, op := Go.Op.store 46 (Go.Operand.tmp 3) (Go.Operand.tmp 32), type := 0, pos := "ref.go:97", after := #[{ on := 4, ground := Go.Ground.data }, { on := 5, ground := Go.Ground.chain }, { on := 0, ground := Go.Ground.phase }, { on := 1, ground := Go.Ground.phase }, { on := 2, ground := Go.Ground.phase }, { on := 3, ground := Go.Ground.phase }, { on := 4, ground := Go.Ground.phase }, { on := 5, ground := Go.Ground.phase }], guard := none }) rfl (fun K hK => ?_) AllReadyH.nil
        refine step_store (by rfl) 46 (.tmp 3) (.tmp 32) rfl (w.heap.size + 1 + 1) #[(.slice sa (l.length - 32) (c - 32)), .bool false] rfl rfl (there_cs Y3.out rfl) size46 HSV1.out ?_
        have Y1 := Aside0.mk ((setCells_other (g := w.heap.size + 1 + 1) (by omega) (vs := [(.slice sa (l.length - 32) (c - 32)), .bool false]) (o := 0)).trans Y1.out)
        have Y2 := Aside0.mk ((setCells_other (g := w.heap.size + 1 + 1) (by omega) (vs := [(.slice sa (l.length - 32) (c - 32)), .bool false]) (o := 0)).trans Y2.out)
        have Y3 := Aside0.mk (setCells_row Y3.out [(.slice sa (l.length - 32) (c - 32)), .bool false] rfl)
        have Y4 := Aside0.mk ((setCells_other (g := w.heap.size + 1 + 1) (by omega) (vs := [(.slice sa (l.length - 32) (c - 32)), .bool false]) (o := 0)).trans Y4.out)
        refine hK.out _ _ (⟨Y4.out, cell_of_row _ w.heap.size 0 #[.slice (some ad) l.length c, .bool false] 46 (0, 0) Y1.out⟩) (fun hHeld => ?_)
        clear hK K
        try simp only [Act.put, List.setIfInBounds_toArray, List.set_cons_zero, List.set_cons_succ]
        refine wpAnyH_done (by kernel_rfl) ?_ _
        refine NoPanic.normal ?_
        go_wp2
        refine ret_two (p := 2) (q := 3) ?_ (w.heap.size + 1) (w.heap.size + 1 + 1) (0, 0) (0, 0) ((l.take 32).map (Value.int .u8)).toArray (.slice sa (l.length - 32) (c - 32)) (.bool false) ?_ ?_ ?_ Y2.out Y3.out HTS.out ?_
        all_goals first | rfl | skip
        rw [HT.out]
        refine ⟨_, rfl, ?_, below_setCells (by omega) _ _ _ HBF.out⟩
        rw [← hsa]
        exact inv_drop HC.out HCC.out hl32
end Go.Proofs.Ytighpoelpedneaa

import Derived.Test.YtighpoelpedneaaGetNum
namespace Go.Proofs.Ytighpoelpedneaa
open Go Go.RowKit Go.Proofs.YtighpoelpedneaaW.PrintWords
set_option linter.unusedVariables false
set_option linter.unusedSimpArgs false

theorem yields_conv {ops : Array Oper} {S : World → Prop} {op : Oper} {a : Act} (hw : Region.wanted op (yielded ops a.tmps) = true) (x : Operand) (ho : op.op = .convert 22 9 x) (A : Option Addr) (n c : Nat) (l : List Int)
    (hx : a.eval x = .slice A n c) (hS : ∀ w, S w → (Kd.int .u8).C w A n l) : YieldsIf Try.prog ops S op (.string (strOfNums l)) a := .inl ⟨hw, fun w h => by
    unfold execOp
    simp only [ho, Sem.run_bind, Sem.run_pure, Result.andThen_ok, hx, Kd.C_string (P := Try.prog) (src := 22) (dst := 9) (c := c) Try.underlying22 Try.underlying5 Try.underlying9 (hS w h)]⟩

set_option maxHeartbeats 4000000 in
set_option maxRecDepth 20000 in
theorem getText_any (w0 w : World) (A : Option Addr) (c : Nat) (l : List Int) (bad : Bool) (most : Int) (hC : (Kd.int .u8).C w0 A l.length l) (hc : l.length ≤ c) (hB : Bytes l) (hb : Below w0.heap.size w0 w) (hm : (Lit.int .i64 most).wf = true) :
    Calls Try.prog 28 #[.agg #[.slice A l.length c, .bool bad], .int .i64 most] w (InPost w0 w (.string (strOfNums (textR most l bad).1)) (textR most l bad).2.1 (textR most l bad).2.2) := by
  obtain ⟨f1, f2, f3, f4⟩ := numR_facts most l bad hB
  have HK := Aside0.mk (fun W h => getNum_any w0 W A c l bad most hC hc hB h hm)
  have HBW := Aside0.mk hb
  have hTR : textR most l bad = if (numR most l bad).2.2 = true ∨ ((numR most l bad).2.1.length : Int) < (numR most l bad).1 then ([], [], true)
    else ((numR most l bad).2.1.take (numR most l bad).1.toNat, (numR most l bad).2.1.drop (numR most l bad).1.toNat, false) := rfl
  generalize numR most l bad = r at *
  obtain ⟨n, l', b'⟩ := r
  simp only at f1 f2 f3 f4 hTR
  have HW2 := Aside0.mk (below_alloc (below_alloc (Below.refl w.heap.size w) (.cells #[.slice A l.length c, .bool bad] 46)) (.cells #[.slice none 0 0, .bool false] 46))
  have HZ := Aside0.mk (heap_alloc2_new w (.cells #[.slice A l.length c, .bool bad] 46) (.cells #[.slice none 0 0, .bool false] 46))
  have HBB := Aside0.mk (below_step HBW.out HW2.out)
  have HF1 := Aside0.mk f1
  clear hC hc hB hb
  have HCx := Aside0.mk (fun (v' : Value) (h : InV w0 v' l' b') => h)
  by_cases hbad : b' = true ∨ (l'.length : Int) < n
  · have HT := Aside0.mk (show textR most l bad = ([], [], true) by rw [hTR, if_pos hbad])
    have HSZ := Aside0.mk (show (Try.prog.info? 46).map (·.size) = some (#[.slice none 0 0, .bool true] : Array Value).size from size46)
    have HONE := Aside0.mk (show (#[.slice none 0 0, .bool true] : Array Value).all (·.oneCell') = true by simp [Value.oneCell'])
    clear hTR
    have hK2 := fun (W : World) (h : Below w0.heap.size w0 W) => show Calls Try.prog 26 #[.agg #[.slice A l.length c, .bool bad], .int .i64 most] W (fun e w' => ∃ A' c', e = .returned (.tuple #[.int .i64 n, .agg #[.slice A' l'.length c', .bool b']]) ∧ Below W.heap.size W w') from (HK.out W h).mono fun e w' ⟨v', he, ⟨A', c', hv, _⟩, hb⟩ => ⟨A', c', by rw [he, hv], hb⟩
    have HK2 := Aside0.mk hK2
    clear hK2
    cases b' with
    | true =>
      go_enter Try.func28, Try.ntmps28
      go_wp2_with (first
        | (go_at_call 26; (with_reducible refine (HK2.out _ HBB.out).mono ?_); rintro e w1 ⟨A', c', rfl, hb1⟩; have HB1 := Aside0.mk hb1; clear hb1)
        | (go_at_call 40; (with_reducible refine (failed_any _).mono ?_); rintro e w2 ⟨rfl, hb2⟩; have HB2 := Aside0.mk (below_step (below_alloc HB1.out (.cells #[.slice A' l'.length c', .bool true] 46)) hb2); have HZ6 := Aside0.mk ((HB2.out.block _ (by simp)).trans HZ.out); clear hb2)
        | ((with_reducible refine arm_store (ty := 46) (x := .tmp 5) (b := w.heap.size + 1) (c' := #[.slice none 0 0, .bool true]) ?_ ?_ ?_ HSZ.out HONE.out ?_); rfl; rfl; exact there_cs HZ6.out rfl))
      refine ret_in (p := 5) (u := 4) ?_ (w.heap.size + 1) (0, 0) (.string ⟨#[]⟩) (.slice none 0 0) (.bool true) ?_ ?_ ?_ (setCells_row HZ6.out [.slice none 0 0, .bool true] rfl) ?_
      all_goals first | rfl | skip
      rw [HT.out]
      exact ⟨_, rfl, inv_failed w0, below_setCells (by omega) _ _ _ (below_step HW2.out HB2.out)⟩
    | false =>
      have hlt : (l'.length : Int) < n := by rcases hbad with h | h; cases h; exact h
      clear hbad
      go_enter Try.func28, Try.ntmps28
      go_wp2_with (first
        | (go_at_call 26; (with_reducible refine (HK2.out _ HBB.out).mono ?_); rintro e w1 ⟨A', c', rfl, hb1⟩; have HB1 := Aside0.mk hb1; clear hb1)
        | (go_at_call 40; (with_reducible refine (failed_any _).mono ?_); rintro e w2 ⟨rfl, hb2⟩; have HB2 := Aside0.mk (below_step (below_alloc HB1.out (.cells #[.slice A' l'.length c', .bool false] 46)) hb2); have HZ6 := Aside0.mk ((HB2.out.block _ (by simp)).trans HZ.out); clear hb2)
        | ((with_reducible refine arm_store (ty := 46) (x := .tmp 5) (b := w.heap.size + 1) (c' := #[.slice none 0 0, .bool true]) ?_ ?_ ?_ HSZ.out HONE.out ?_); rfl; rfl; exact there_cs HZ6.out rfl))
      refine ret_in (p := 5) (u := 4) ?_ (w.heap.size + 1) (0, 0) (.string ⟨#[]⟩) (.slice none 0 0) (.bool true) ?_ ?_ ?_ (setCells_row HZ6.out [.slice none 0 0, .bool true] rfl) ?_
      all_goals first | rfl | skip
      rw [HT.out]
      exact ⟨_, rfl, inv_failed w0, below_setCells (by omega) _ _ _ (below_step HW2.out HB2.out)⟩
  · obtain rfl : b' = false := by cases b' with | false => rfl | true => exact absurd (.inl rfl) hbad
    have hle : ¬ (l'.length : Int) < n := fun h => hbad (.inr h)
    obtain ⟨k, rfl⟩ := Int.eq_ofNat_of_zero_le f3
    have hkl : k ≤ l'.length := by omega
    have HT := Aside0.mk (show textR most l bad = (l'.take k, l'.drop k, false) by rw [hTR, if_neg hbad]; simp)
    clear hTR hbad
    have hK2 := fun (W : World) (h : Below w0.heap.size w0 W) => show Calls Try.prog 26 #[.agg #[.slice A l.length c, .bool bad], .int .i64 most] W (fun e w' => ∃ A' c', e = .returned (.tuple #[.int .i64 k, .agg #[.slice A' l'.length c', .bool false]]) ∧ (Kd.int .u8).C w0 A' l'.length l' ∧ l'.length ≤ c' ∧ Below W.heap.size W w') from (HK.out W h).mono fun e w' ⟨v', he, ⟨A', c', hv, hC', hc'⟩, hb⟩ => ⟨A', c', by rw [he, hv], hC', hc', hb⟩
    have HK2 := Aside0.mk hK2
    clear hK2
    go_enter Try.func28, Try.ntmps28
    go_wp2_with (first
      | (go_at_call 26; (with_reducible refine (HK2.out _ HBB.out).mono ?_); rintro e w1 ⟨A', c', rfl, hC', hc', hb1⟩; have HC' := Aside0.mk hC'; have HCC' := Aside0.mk hc'; have HB1 := Aside0.mk hb1; clear hC' hb1))
    obtain ⟨sa, hsa⟩ : ∃ sa, (if c' = k then A' else A'.map (·.add k)) = sa := ⟨_, rfl⟩
    have HSV1 := Aside0.mk (show (#[.slice sa (l'.length - k) (c' - k), .bool false] : Array Value).all (·.oneCell') = true by simp [Value.oneCell'])
    have HBx := Aside0.mk (show Below w0.heap.size w0 (w1.alloc (.cells #[.slice A' l'.length c', .bool false] 46)).drew from below_drew1 (below_step HBB.out (below_alloc HB1.out _)))
    have HXC := Aside0.mk (fun (W : World) (h : Below w0.heap.size w0 W) => (show (Kd.int .u8).C W A' k (l'.take k) by
      have ht := Kd.C_take (Kd.C_below HC'.out h) hkl
      rwa [List.length_take, Nat.min_eq_left hkl] at ht))
    have HX0 := Aside0.mk (show (w1.alloc (.cells #[.slice A' l'.length c', .bool false] 46)).drew.cell? ⟨w1.heap.size, 0, none⟩ = some (.slice A' l'.length c') from by
      have := cell_of_row _ w1.heap.size 0 _ 46 (0, 0) (heap_alloc_new w1 (.cells #[.slice A' l'.length c', .bool false] 46))
      exact this)
    have HZ7 := Aside0.mk (show (w1.alloc (.cells #[.slice A' l'.length c', .bool false] 46)).drew.heap[w.heap.size + 1]? = some (.cells #[.slice none 0 0, .bool false] 46 (0, 0)) from (((below_alloc HB1.out (.cells #[.slice A' l'.length c', .bool false] 46)).block _ (by simp)).trans HZ.out))
    have HLT1 := Aside0.mk (show w.heap.size + 1 < w1.heap.size by have := HB1.out.size; simp at this; omega)
    have HBy := Aside0.mk (show Below w0.heap.size w0 ((w1.alloc (.cells #[.slice A' l'.length c', .bool false] 46)).drew.setCells (w.heap.size + 1) 0 [.slice sa (l'.length - k) (c' - k), .bool false]) from below_setCells (by have := HBW.out.size; omega) _ _ _ HBx.out)
    have HX1 := Aside0.mk (show ((w1.alloc (.cells #[.slice A' l'.length c', .bool false] 46)).drew.setCells (w.heap.size + 1) 0 [.slice sa (l'.length - k) (c' - k), .bool false]).cell? ⟨w1.heap.size, 0, none⟩ = some (.slice A' l'.length c') from by
      have e := heap_alloc_new w1 (.cells #[.slice A' l'.length c', .bool false] 46)
      exact cell_of_row _ w1.heap.size 0 #[.slice A' l'.length c', .bool false] 46 (0, 0) ((setCells_other (by have := HLT1.out; omega)).trans e))
    have HBz := Aside0.mk (show Below w.heap.size w ((w1.alloc (.cells #[.slice A' l'.length c', .bool false] 46)).drew.setCells (w.heap.size + 1) 0 [.slice sa (l'.length - k) (c' - k), .bool false]) from below_setCells (by omega) _ _ _ (below_drew1 (below_step HW2.out (below_alloc HB1.out _))))
    refine wp_region_noPanic ?_
    refine wp_region_held_drew (S := (fun W => W.cell? ⟨w1.heap.size, 0, none⟩ = some (.slice A' l'.length c') ∧ (Kd.int .u8).C W A' k (l'.take k))) (by kernel_rfl) ?_ (fun hHeld => ?_)
    · exact ⟨HX0.out, HXC.out _ HBx.out⟩
    refine wpAnyH_take (i := 0) (oi := { dst := some 24, op := Go.Op.fieldAddr 46 (Go.Operand.tmp 7) 0, type := 0, pos := "ref.go:85", after := #[], guard := none }) (v := ?_) rfl (by kernel_rfl) (by kernel_rfl) (by kernel_rfl) (fun _ _ _ h => h) (Or.inl ⟨by rfl, ?_⟩) hHeld ?_
    rotate_left
    · intro w hSw; go_simp; with_reducible rfl
    try simp only [Act.put, List.setIfInBounds_toArray, List.set_cons_zero, List.set_cons_succ]
    refine wpAnyH_take (i := 1) (oi := { dst := some 25, op := Go.Op.load 22 (Go.Operand.tmp 24), type := 22, pos := "ref.go:85", after := #[{ on := 0, ground := Go.Ground.data }], guard := none }) (v := _) rfl (by kernel_rfl) (by kernel_rfl) (by kernel_rfl) (fun _ _ _ h => h) ((show YieldsIf _ _ _ _ (.slice A' l'.length c') _ from Or.inl ⟨by rfl, fun w hSw => by have hc := hSw.1; go_simp⟩)) hHeld ?_
    try simp only [Act.put, List.setIfInBounds_toArray, List.set_cons_zero, List.set_cons_succ]
    refine wpAnyH_take (i := 2) (oi := { dst := some 26, op := Go.Op.move (Go.Operand.tmp 6), type := 2, pos := "ref.go:85", after := #[], guard := none }) (v := ?_) rfl (by kernel_rfl) (by kernel_rfl) (by kernel_rfl) (fun _ _ _ h => h) (Or.inl ⟨by rfl, ?_⟩) hHeld ?_
    rotate_left
    · intro w hSw; go_simp; with_reducible rfl
    try simp only [Act.put, List.setIfInBounds_toArray, List.set_cons_zero, List.set_cons_succ]
    refine wpAnyH_take (i := 3) (oi := { dst := some 27, op := Go.Op.slice 22 (Go.Operand.tmp 25) none (some (Go.Operand.tmp 26)) none, type := 22, pos := "ref.go:85", after := #[{ on := 1, ground := Go.Ground.data }, { on := 2, ground := Go.Ground.data }], guard := none }) (v := _) rfl (by kernel_rfl) (by kernel_rfl) (by kernel_rfl) (fun _ _ _ h => h) (yields_high (by rfl) (.tmp 25) (.tmp 26) rfl A' l'.length c' k .i64 rfl rfl hkl HCC'.out) hHeld ?_
    try simp only [Act.put, List.setIfInBounds_toArray, List.set_cons_zero, List.set_cons_succ]
    refine wpAnyH_take (i := 4) (oi := { dst := some 28, op := Go.Op.convert 22 9 (Go.Operand.tmp 27), type := 9, pos := "ref.go:85", after := #[{ on := 3, ground := Go.Ground.data }], guard := none }) (v := _) rfl (by kernel_rfl) (by kernel_rfl) (by kernel_rfl) (fun _ _ _ h => h) (yields_conv (by rfl) (.tmp 27) rfl A' k c' (l'.take k) rfl (fun w h => h.2)) hHeld ?_
    try simp only [Act.put, List.setIfInBounds_toArray, List.set_cons_zero, List.set_cons_succ]
    refine wpAnyH_take (i := 5) (oi := { dst := some 29, op := Go.Op.fieldAddr 46 (Go.Operand.tmp 7) 0, type := 0, pos := "ref.go:85", after := #[], guard := none }) (v := ?_) rfl (by kernel_rfl) (by kernel_rfl) (by kernel_rfl) (fun _ _ _ h => h) (Or.inl ⟨by rfl, ?_⟩) hHeld ?_
    rotate_left
    · intro w hSw; go_simp; with_reducible rfl
    try simp only [Act.put, List.setIfInBounds_toArray, List.set_cons_zero, List.set_cons_succ]
    refine wpAnyH_take (i := 6) (oi := { dst := some 30, op := Go.Op.load 22 (Go.Operand.tmp 29), type := 22, pos := "ref.go:85", after := #[{ on := 5, ground := Go.Ground.data }], guard := none }) (v := _) rfl (by kernel_rfl) (by kernel_rfl) (by kernel_rfl) (fun _ _ _ h => h) ((show YieldsIf _ _ _ _ (.slice A' l'.length c') _ from Or.inl ⟨by rfl, fun w hSw => by have hc := hSw.1; go_simp⟩)) hHeld ?_
    try simp only [Act.put, List.setIfInBounds_toArray, List.set_cons_zero, List.set_cons_succ]
    refine wpAnyH_take (i := 7) (oi := { dst := some 31, op := Go.Op.move (Go.Operand.tmp 6), type := 2, pos := "ref.go:85", after := #[], guard := none }) (v := ?_) rfl (by kernel_rfl) (by kernel_rfl) (by kernel_rfl) (fun _ _ _ h => h) (Or.inl ⟨by rfl, ?_⟩) hHeld ?_
    rotate_left
    · intro w hSw; go_simp; with_reducible rfl
    try simp only [Act.put, List.setIfInBounds_toArray, List.set_cons_zero, List.set_cons_succ]
    refine wpAnyH_take (i := 8) (oi := { dst := some 32, op := Go.Op.slice 22 (Go.Operand.tmp 30) (some (Go.Operand.tmp 31)) none none, type := 22, pos := "ref.go:85", after := #[{ on := 6, ground := Go.Ground.data }, { on := 7, ground := Go.Ground.data }], guard := none }) (v := _) rfl (by kernel_rfl) (by kernel_rfl) (by kernel_rfl) (fun _ _ _ h => h) ((show YieldsIf _ _ _ _ (.slice sa (l'.length - k) (c' - k)) _ from hsa ▸ yields_low (by rfl) (.tmp 30) (.tmp 31) rfl A' l'.length c' k .i64 rfl rfl hkl)) hHeld ?_
    try simp only [Act.put, List.setIfInBounds_toArray, List.set_cons_zero, List.set_cons_succ]
    refine wpAnyH_take (i := 9) (oi := { dst := some 33, op := Go.Op.build 46 #[(0, Go.Operand.tmp 32), (1, Go.Operand.const (Go.Value.bool false))], type := 46, pos := "ref.go:85", after := #[{ on := 8, ground := Go.Ground.data }, { on := 10, ground := Go.Ground.gcOnly Go.Departure.lateStores }], guard := none }) (v := ?_) rfl (by kernel_rfl) (by kernel_rfl) (by kernel_rfl) (fun _ _ _ h => h) (Or.inl ⟨by rfl, ?_⟩) hHeld ?_
    rotate_left
    · intro w hSw; go_simp; with_reducible rfl
    try simp only [Act.put, List.setIfInBounds_toArray, List.set_cons_zero, List.set_cons_succ]
    refine wpAnyH_take (i := 10) (oi := { dst := some 4, op := Go.Op.assign (Go.Operand.tmp 28), type := 9, pos := "ref.go:85", after := #[{ on := 4, ground := Go.Ground.data }, { on := 0, ground := Go.Ground.phase }, { on := 1, ground := Go.Ground.phase }, { on := 2, ground := Go.Ground.phase }, { on := 3, ground := Go.Ground.phase }, { on := 4, ground := Go.Ground.phase }, { on := 5, ground := Go.Ground.textOnly Go.Departure.lateStores }, { on := 6, ground := Go.Ground.textOnly Go.Departure.lateStores }, { on := 7, ground := Go.Ground.textOnly Go.Departure.lateStores }, { on := 8, ground := Go.Ground.textOnly Go.Departure.lateStoresUnsure }, { on := 9, ground := Go.Ground.textOnly Go.Departure.lateStores }], guard := none }) (v := ?_) rfl (by kernel_rfl) (by kernel_rfl) (by kernel_rfl) (fun _ _ _ h => h) (Or.inl ⟨by rfl, ?_⟩) hHeld ?_
    rotate_left
    · intro w hSw; go_simp; with_reducible rfl
    try simp only [Act.put, List.setIfInBounds_toArray, List.set_cons_zero, List.set_cons_succ]
    refine wpAnyH_ready (rs := [11]) (by kernel_rfl) (by simp) ?_
    refine AllReadyH.cons (o := { dst := none, op := Go.Op.store 46 (Go.Operand.tmp 5) (Go.Operand.tmp 33), type := 0, pos := "ref.go:85", after := #[{ on := 9, ground := Go.Ground.data }, { on := 10, ground := Go.Ground.chain }, { on := 0, ground := Go.Ground.phase }, { on := 1, ground := Go.Ground.phase }, { on := 2, ground := Go.Ground.phase }, { on := 3, ground := Go.Ground.phase }, { on := 4, ground := Go.Ground.phase }, { on := 5, ground := Go.Ground.phase }, { on := 6, ground := Go.Ground.phase }, { on := 7, ground := Go.Ground.phase }, { on := 8, ground := Go.Ground.phase }, { on := 9, ground := Go.Ground.phase }, { on := 10, ground := Go.Ground.phase }], guard := none }) rfl (fun K hK => ?_) AllReadyH.nil
    refine step_store (by rfl) 46 (.tmp 5) (.tmp 33) rfl (w.heap.size + 1) #[(.slice sa (l'.length - k) (c' - k)), .bool false] rfl rfl (there_cs HZ7.out rfl) size46 HSV1.out ?_
    refine hK.out _ _ (⟨HX1.out, HXC.out _ HBy.out⟩) (fun hHeld => ?_)
    clear hK K
    try simp only [Act.put, List.setIfInBounds_toArray, List.set_cons_zero, List.set_cons_succ]
    refine wpAnyH_done (by kernel_rfl) ?_ _
    refine NoPanic.normal ?_
    go_wp2
    refine ret_in (p := 5) (u := 4) ?_ (w.heap.size + 1) (0, 0) (.string (strOfNums (l'.take k))) (.slice sa (l'.length - k) (c' - k)) (.bool false) ?_ ?_ ?_ (setCells_row HZ7.out [(.slice sa (l'.length - k) (c' - k)), .bool false] rfl) ?_
    all_goals first | rfl | skip
    rw [HT.out]
    refine ⟨_, rfl, ?_, HBz.out⟩
    rw [← hsa]
    exact inv_drop HC'.out HCC'.out hkl
end Go.Proofs.Ytighpoelpedneaa

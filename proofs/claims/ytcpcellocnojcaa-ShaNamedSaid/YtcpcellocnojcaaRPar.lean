import Derived.Test.YtcpcellocnojcaaPar
namespace Go.Proofs.Ytcpcellocnojcaa
open Go Go.RowKit Go.Proofs.YtcpcellocnojcaaW.PrintWords
set_option linter.unusedVariables false
set_option linter.unusedSimpArgs false

theorem unhex_any (c : Int) (w : World) (hc : 0 ≤ c ∧ c < 256) :
    Calls Try.prog 30 #[.int .u8 c] w fun e w' => e = .returned (.int .i64 (hexv c)) ∧ w' = w := by
  by_cases h1 : 48 ≤ c
  · by_cases h2 : c ≤ 57
    · have e : hexv c = c - 48 := if_pos ⟨h1, h2⟩
      rw [e]
      go_enter Try.func30, Try.ntmps30
      go_wp2
      go_ret
      exact ⟨by go_num, rfl⟩
    · by_cases h3 : 97 ≤ c
      · by_cases h4 : c ≤ 102
        · have e : hexv c = c - 87 := by unfold hexv; rw [if_neg (by omega), if_pos (by omega)]
          rw [e]
          go_enter Try.func30, Try.ntmps30
          go_wp2
          go_ret
          exact ⟨by go_num, rfl⟩
        · have e : hexv c = -1 := by unfold hexv; rw [if_neg (by omega), if_neg (by omega)]
          rw [e]
          go_enter Try.func30, Try.ntmps30
          go_wp2
          go_ret
          exact ⟨rfl, rfl⟩
      · have e : hexv c = -1 := by unfold hexv; rw [if_neg (by omega), if_neg (by omega)]
        rw [e]
        go_enter Try.func30, Try.ntmps30
        go_wp2
        go_ret
        exact ⟨rfl, rfl⟩
  · have e : hexv c = -1 := by unfold hexv; rw [if_neg (by omega), if_neg (by omega)]
    have h3 : ¬ 97 ≤ c := by omega
    rw [e]
    go_enter Try.func30, Try.ntmps30
    go_wp2
    go_ret
    exact ⟨rfl, rfl⟩
theorem preL_two (l : List Int) (i : Nat) (hi : i < 32) :
    preL l (2 * (i + 1)) = (preL l (2 * i)).set i (16 * hexv (rd l ((2 * i : Nat) : Int)) + hexv (rd l ((2 * i + 1 : Nat) : Int))) := by
  rw [show 2 * (i + 1) = 2 * i + 1 + 1 by omega, preL_next l (2 * i + 1) (by omega), preL_next l (2 * i) (by omega),
    show (2 * i + 1) / 2 = i by omega, show 2 * i / 2 = i by omega, List.set_set]
  congr 1
  have : preV l (2 * i + 1) i = hexv (rd l ((2 * i : Nat) : Int)) := by
    unfold preV; rw [if_neg (by omega), if_pos (by omega)]
  rw [this]
theorem enter30 (vs : Array Value) (W : World) : (callFunc 30 vs).run Try.prog W = .ok (.enter 30 vs) W := enter_of Try.func30 (by rfl) (by decide +kernel) vs W
theorem unhex_v (c : Int) (w : World) (hc : 0 ≤ c ∧ c < 256) :
    Calls Try.prog 30 #[.int .u8 c] w fun e w' => ∃ u, e = .returned u ∧ u = .int .i64 (hexv c) ∧ w' = w :=
  (unhex_any c w hc).mono fun _ _ ⟨he, hw⟩ => ⟨_, he, rfl, hw⟩

theorem yields_str {ops : Array Oper} {S : World → Prop} {op : Oper} {a : Act} (hw : Region.wanted op (yielded ops a.tmps) = true) (x y : Operand)
    (ho : op.op = .index 9 x y) (s : ByteArray) (k : IntKind) (n : Int) (hx : a.eval x = .string s) (hy : a.eval y = .int k n) (h0 : 0 ≤ n) (h : n < s.size) :
    YieldsIf Try.prog ops S op (.int .u8 (rd (bytesOf s) n)) a := .inl ⟨hw, fun w _ => by
    unfold execOp
    simp only [ho, Sem.run_bind, Sem.run_pure, Result.andThen_ok]
    rw [hx, hy, index_str s k n h0 h w]
    rfl⟩
theorem setCells_other {g k : Nat} (hk : k ≠ g) : ∀ {vs : List Value} {o : Nat} {w : World}, (w.setCells g o vs).heap[k]? = w.heap[k]? := by
  intro vs
  induction vs with
  | nil => intro o w; rfl
  | cons v r ih => intro o w; exact (ih (o := o + 1)).trans (heap_setCell_other w ⟨g, o, none⟩ k v hk)

set_option maxHeartbeats 2000000 in
set_option maxRecDepth 20000 in
theorem refParse_any (s : ByteArray) (w : World) (hsz : s.size ≤ 140737488355328) :
    Calls Try.prog 14 #[.string s] w fun e w' => e = .returned (.tuple #[.agg (cellsN (parseB (bytesOf s))), .bool (good (bytesOf s))]) ∧ Below w.heap.size w w' := by
  have h22 := Try.underlying22
  have hF : ∃ W1, ((w.alloc (.cells (cellsN zeros32) 22)).alloc (.cells (cellsN zeros32) 22)).setCells (w.heap.size + 1) 0 (cellsN zeros32).toList = W1 ∧ W1.heap[w.heap.size]? = some (.cells (cellsN zeros32) 22 (0, 0)) ∧
      W1.heap[w.heap.size + 1]? = some (.cells (cellsN zeros32) 22 (0, 0)) ∧ Below w.heap.size w W1 := by
    refine ⟨_, rfl, ?_, ?_, ?_⟩
    · rw [setCells_other (by omega)]; exact heap_alloc2_old w _ _
    · have := setCells_row (heap_alloc2_new w (.cells (cellsN zeros32) 22) (.cells (cellsN zeros32) 22)) (cellsN zeros32).toList rfl
      rwa [Array.toArray_toList] at this
    · exact below_setCells (by omega) _ _ _ (below_alloc (below_alloc (Below.refl w.heap.size w) _) _)
  obtain ⟨W1, hW1, hz1, hz2, hb⟩ := hF
  have HW1 := Aside0.mk hW1
  have HZ1 := Aside0.mk hz1
  have HZ2 := Aside0.mk hz2
  have HB := Aside0.mk hb
  have HN2 := Aside0.mk (heap_alloc2_new w (.cells (cellsN zeros32) 22) (.cells (cellsN zeros32) 22))
  clear hW1 hz1 hz2 hb
  have HSZ := Aside0.mk (show (Try.prog.info? 22).map (·.size) = some (cellsN zeros32).size from size22)
  have HSZ2 := Aside0.mk (show (Try.prog.info? 22).map (·.size) = some (cellsN zeros32).toList.length from size22)
  by_cases hlen : s.size = 64
  · go_enter Try.func14, Try.ntmps14
    go_wp2_with (first
      | (refine wpList_store_mid (w := (w.alloc (.cells (cellsN zeros32) 22)).alloc (.cells (cellsN zeros32) 22)) rfl 22 (.tmp 4) (.tmp 8) rfl (w.heap.size + 1) 0 (cellsN zeros32) rfl rfl (there_cs HN2.out rfl) HSZ.out (cellsN_one _) ?_; rw [HW1.out]))
    go_loopw [5] (fun v wr => ∃ i : Nat, i ≤ 32 ∧ v = .int .i64 i ∧ Aside0 (wr.heap[w.heap.size]? = some (.cells (cellsN zeros32) 22 (0, 0))) ∧ Aside0 (wr.heap[w.heap.size + 1]? = some (.cells (cellsN (preL (bytesOf s) (2 * i))) 22 (0, 0))) ∧
      Aside0 (Below w.heap.size w wr) ∧ Aside0 (∀ k : Nat, k < 2 * i → 0 ≤ hexv (rd (bytesOf s) (k : Int)))) (fun v wr => (32 - intOf v).toNat)
    case atStart => exact ⟨0, by omega, rfl, HZ1, ⟨by rw [show 2 * 0 = 0 from rfl, preL_zero]; exact HZ2.out⟩, HB, ⟨fun k hk => by omega⟩⟩
    case round =>
      obtain ⟨i, hi, rfl, HZ, HP, HB, HG⟩ := hrel
      by_cases hlt : i < 32
      · have hsz2 : (s.size : Int) = 64 := by omega
        have hm : IntKind.i64.wrap (2 * (i : Int)) = 2 * (i : Int) := by rw [IntKind.wrap_i64]; omega
        have ham : IntKind.i64.wrap (2 * (i : Int) + 1) = 2 * (i : Int) + 1 := by rw [IntKind.wrap_i64]; omega
        have HR1 := Aside0.mk (show 0 ≤ rd (bytesOf s) (2 * (i : Int)) ∧ rd (bytesOf s) (2 * (i : Int)) < 256 from byte_range s (2 * i))
        have HR2 := Aside0.mk (show 0 ≤ rd (bytesOf s) (2 * (i : Int) + 1) ∧ rd (bytesOf s) (2 * (i : Int) + 1) < 256 from byte_range s (2 * i + 1))
        go_wp2_with fail
        refine wp_region_noPanic ?_
        refine wp_region_held_drew (S := (fun _ => True)) (by kernel_rfl) ?_ (fun hHeld => ?_)
        · exact trivial
        refine wpAnyH_take (i := 0) (oi := { dst := some 17, op := Go.Op.move (Go.Operand.tmp 0), type := 9, pos := "ref.go:208", after := #[], guard := none }) (v := ?_) rfl (by kernel_rfl) (by kernel_rfl) (by kernel_rfl) (fun _ _ _ h => h) (Or.inl ⟨by rfl, ?_⟩) hHeld ?_
        rotate_left
        · intro w hSw; go_simp; with_reducible rfl
        try simp only [Act.put, List.setIfInBounds_toArray, List.set_cons_zero, List.set_cons_succ]
        refine wpAnyH_take (i := 1) (oi := { dst := some 18, op := Go.Op.move (Go.Operand.tmp 5), type := 3, pos := "ref.go:208", after := #[], guard := none }) (v := ?_) rfl (by kernel_rfl) (by kernel_rfl) (by kernel_rfl) (fun _ _ _ h => h) (Or.inl ⟨by rfl, ?_⟩) hHeld ?_
        rotate_left
        · intro w hSw; go_simp; with_reducible rfl
        try simp only [Act.put, List.setIfInBounds_toArray, List.set_cons_zero, List.set_cons_succ]
        refine wpAnyH_take (i := 2) (oi := { dst := some 19, op := Go.Op.binOp Go.BinOp.mul 3 (Go.Operand.const (Go.Value.int Go.IntKind.i64 2)) (Go.Operand.tmp 18) 3, type := 3, pos := "ref.go:208", after := #[{ on := 1, ground := Go.Ground.data }], guard := none }) (v := _) rfl (by kernel_rfl) (by kernel_rfl) (by kernel_rfl) (fun _ _ _ h => h) ((show YieldsIf _ _ _ _ (.int .i64 (2 * (i : Int))) _ from Or.inl ⟨by rfl, fun w hSw => by go_simp; try simp only [hm]⟩)) hHeld ?_
        try simp only [Act.put, List.setIfInBounds_toArray, List.set_cons_zero, List.set_cons_succ]
        refine wpAnyH_take (i := 3) (oi := { dst := some 20, op := Go.Op.index 9 (Go.Operand.tmp 17) (Go.Operand.tmp 19), type := 5, pos := "ref.go:208", after := #[{ on := 0, ground := Go.Ground.data }, { on := 2, ground := Go.Ground.data }], guard := none }) (v := _) rfl (by kernel_rfl) (by kernel_rfl) (by kernel_rfl) (fun _ _ _ h => h) (yields_str (by rfl) (.tmp 17) (.tmp 19) rfl s .i64 (2 * (i : Int)) rfl rfl (by omega) (by omega)) hHeld ?_
        try simp only [Act.put, List.setIfInBounds_toArray, List.set_cons_zero, List.set_cons_succ]
        refine wpAnyH_take (i := 5) (oi := { dst := some 22, op := Go.Op.move (Go.Operand.tmp 0), type := 9, pos := "ref.go:208", after := #[], guard := none }) (v := ?_) rfl (by kernel_rfl) (by kernel_rfl) (by kernel_rfl) (fun _ _ _ h => h) (Or.inl ⟨by rfl, ?_⟩) hHeld ?_
        rotate_left
        · intro w hSw; go_simp; with_reducible rfl
        try simp only [Act.put, List.setIfInBounds_toArray, List.set_cons_zero, List.set_cons_succ]
        refine wpAnyH_take (i := 6) (oi := { dst := some 23, op := Go.Op.move (Go.Operand.tmp 5), type := 3, pos := "ref.go:208", after := #[], guard := none }) (v := ?_) rfl (by kernel_rfl) (by kernel_rfl) (by kernel_rfl) (fun _ _ _ h => h) (Or.inl ⟨by rfl, ?_⟩) hHeld ?_
        rotate_left
        · intro w hSw; go_simp; with_reducible rfl
        try simp only [Act.put, List.setIfInBounds_toArray, List.set_cons_zero, List.set_cons_succ]
        refine wpAnyH_take (i := 7) (oi := { dst := some 24, op := Go.Op.binOp Go.BinOp.mul 3 (Go.Operand.const (Go.Value.int Go.IntKind.i64 2)) (Go.Operand.tmp 23) 3, type := 3, pos := "ref.go:208", after := #[{ on := 6, ground := Go.Ground.data }], guard := none }) (v := _) rfl (by kernel_rfl) (by kernel_rfl) (by kernel_rfl) (fun _ _ _ h => h) ((show YieldsIf _ _ _ _ (.int .i64 (2 * (i : Int))) _ from Or.inl ⟨by rfl, fun w hSw => by go_simp; try simp only [hm]⟩)) hHeld ?_
        try simp only [Act.put, List.setIfInBounds_toArray, List.set_cons_zero, List.set_cons_succ]
        refine wpAnyH_take (i := 8) (oi := { dst := some 25, op := Go.Op.binOp Go.BinOp.add 3 (Go.Operand.tmp 24) (Go.Operand.const (Go.Value.int Go.IntKind.i64 1)) 3, type := 3, pos := "ref.go:208", after := #[{ on := 7, ground := Go.Ground.data }], guard := none }) (v := _) rfl (by kernel_rfl) (by kernel_rfl) (by kernel_rfl) (fun _ _ _ h => h) ((show YieldsIf _ _ _ _ (.int .i64 (2 * (i : Int) + 1)) _ from Or.inl ⟨by rfl, fun w hSw => by go_simp; try simp only [ham]⟩)) hHeld ?_
        try simp only [Act.put, List.setIfInBounds_toArray, List.set_cons_zero, List.set_cons_succ]
        refine wpAnyH_take (i := 9) (oi := { dst := some 26, op := Go.Op.index 9 (Go.Operand.tmp 22) (Go.Operand.tmp 25), type := 5, pos := "ref.go:208", after := #[{ on := 5, ground := Go.Ground.data }, { on := 8, ground := Go.Ground.data }], guard := none }) (v := _) rfl (by kernel_rfl) (by kernel_rfl) (by kernel_rfl) (fun _ _ _ h => h) (yields_str (by rfl) (.tmp 22) (.tmp 25) rfl s .i64 (2 * (i : Int) + 1) rfl rfl (by omega) (by omega)) hHeld ?_
        try simp only [Act.put, List.setIfInBounds_toArray, List.set_cons_zero, List.set_cons_succ]
        refine wpAnyH_ready (rs := [4]) (by kernel_rfl) (by simp) ?_
        refine AllReadyH.cons (o := { dst := some 21, op := Go.Op.call { callee := Go.Callee.value (Go.Operand.func 30), args := #[Go.Operand.tmp 20], argTypes := #[5] }, type := 3, pos := "ref.go:208", after := #[{ on := 3, ground := Go.Ground.data }], guard := none }) rfl (fun K hK => ?_) AllReadyH.nil
        refine step_call1 (f := 30) (x := .tmp 20) (v := .int .u8 (rd (bytesOf s) (2 * (i : Int)))) (by rfl) rfl rfl enter30 (unhex_v _ _ HR1.out) ?_
        rintro v1 w1 ⟨rfl, rfl⟩
        refine hK.out _ _ (trivial) (fun hHeld => ?_)
        clear hK K
        try simp only [Act.put, List.setIfInBounds_toArray, List.set_cons_zero, List.set_cons_succ]
        refine wpAnyH_ready (rs := [10]) (by kernel_rfl) (by simp) ?_
        refine AllReadyH.cons (o := { dst := some 27, op := Go.Op.call { callee := Go.Callee.value (Go.Operand.func 30), args := #[Go.Operand.tmp 26], argTypes := #[5] }, type := 3, pos := "ref.go:208", after := #[{ on := 9, ground := Go.Ground.data }, { on := 4, ground := Go.Ground.chain }], guard := none }) rfl (fun K hK => ?_) AllReadyH.nil
        refine step_call1 (f := 30) (x := .tmp 26) (v := .int .u8 (rd (bytesOf s) (2 * (i : Int) + 1))) (by rfl) rfl rfl enter30 (unhex_v _ _ HR2.out) ?_
        rintro v2 w2 ⟨rfl, rfl⟩
        refine hK.out _ _ (trivial) (fun hHeld => ?_)
        clear hK K
        try simp only [Act.put, List.setIfInBounds_toArray, List.set_cons_zero, List.set_cons_succ]
        refine wpAnyH_take (i := 11) (oi := { dst := some 6, op := Go.Op.assign (Go.Operand.tmp 21), type := 3, pos := "ref.go:208", after := #[{ on := 4, ground := Go.Ground.data }, { on := 10, ground := Go.Ground.chain }, { on := 0, ground := Go.Ground.phase }, { on := 1, ground := Go.Ground.phase }, { on := 2, ground := Go.Ground.phase }, { on := 3, ground := Go.Ground.phase }, { on := 4, ground := Go.Ground.phase }, { on := 5, ground := Go.Ground.textOnly Go.Departure.lateStores }, { on := 6, ground := Go.Ground.textOnly Go.Departure.lateStores }, { on := 7, ground := Go.Ground.textOnly Go.Departure.lateStores }, { on := 8, ground := Go.Ground.textOnly Go.Departure.lateStores }, { on := 9, ground := Go.Ground.textOnly Go.Departure.lateStores }, { on := 10, ground := Go.Ground.textOnly Go.Departure.lateStoresUnsure }], guard := none }) (v := ?_) rfl (by kernel_rfl) (by kernel_rfl) (by kernel_rfl) (fun _ _ _ h => h) (Or.inl ⟨by rfl, ?_⟩) hHeld ?_
        rotate_left
        · intro w hSw; go_simp; with_reducible rfl
        try simp only [Act.put, List.setIfInBounds_toArray, List.set_cons_zero, List.set_cons_succ]
        refine wpAnyH_take (i := 12) (oi := { dst := some 7, op := Go.Op.assign (Go.Operand.tmp 27), type := 3, pos := "ref.go:208", after := #[{ on := 10, ground := Go.Ground.data }, { on := 11, ground := Go.Ground.chain }, { on := 0, ground := Go.Ground.phase }, { on := 1, ground := Go.Ground.phase }, { on := 2, ground := Go.Ground.phase }, { on := 3, ground := Go.Ground.phase }, { on := 4, ground := Go.Ground.phase }, { on := 5, ground := Go.Ground.phase }, { on := 6, ground := Go.Ground.phase }, { on := 7, ground := Go.Ground.phase }, { on := 8, ground := Go.Ground.phase }, { on := 9, ground := Go.Ground.phase }, { on := 10, ground := Go.Ground.phase }, { on := 11, ground := Go.Ground.phase }], guard := none }) (v := ?_) rfl (by kernel_rfl) (by kernel_rfl) (by kernel_rfl) (fun _ _ _ h => h) (Or.inl ⟨by rfl, ?_⟩) hHeld ?_
        rotate_left
        · intro w hSw; go_simp; with_reducible rfl
        try simp only [Act.put, List.setIfInBounds_toArray, List.set_cons_zero, List.set_cons_succ]
        refine wpAnyH_done (by kernel_rfl) ?_ _
        refine NoPanic.normal ?_
        have HZ := Aside0.mk (show wr.drew.heap[w.heap.size]? = some (.cells (cellsN zeros32) 22 (0, 0)) from HZ.out)
        have HP := Aside0.mk (show wr.drew.heap[w.heap.size + 1]? = some (.cells (cellsN (preL (bytesOf s) (2 * i))) 22 (0, 0)) from HP.out)
        have HB := Aside0.mk (show Below w.heap.size w wr.drew from below_drew1 HB.out)
        generalize wr.drew = W2 at *
        have hb1 : hexv (rd (bytesOf s) (2 * (i : Int))) < 0 → good (bytesOf s) = false := fun hx => by
          cases hb : good (bytesOf s) with
          | false => rfl
          | true => have := ((good_iff _).1 hb).2 (2 * i) (by omega); rw [show ((2 * i : Nat) : Int) = 2 * (i : Int) by omega] at this; omega
        have hb2 : hexv (rd (bytesOf s) (2 * (i : Int) + 1)) < 0 → good (bytesOf s) = false := fun hx => by
          cases hb : good (bytesOf s) with
          | false => rfl
          | true => have := ((good_iff _).1 hb).2 (2 * i + 1) (by omega); rw [show ((2 * i + 1 : Nat) : Int) = 2 * (i : Int) + 1 by omega] at this; omega
        have HPT := Aside0.mk (show preL (bytesOf s) (2 * (i + 1)) = (preL (bytesOf s) (2 * i)).set i (16 * hexv (rd (bytesOf s) (2 * (i : Int))) + hexv (rd (bytesOf s) (2 * (i : Int) + 1))) from preL_two (bytesOf s) i hlt)
        have HGN := Aside0.mk (show 0 ≤ hexv (rd (bytesOf s) (2 * (i : Int))) → 0 ≤ hexv (rd (bytesOf s) (2 * (i : Int) + 1)) → ∀ k : Nat, k < 2 * (i + 1) → 0 ≤ hexv (rd (bytesOf s) (k : Int)) from fun h1 h2 k hk => by
          rcases Nat.lt_or_ge k (2 * i) with h | h
          · exact HG.out k h
          · rcases (show k = 2 * i ∨ k = 2 * i + 1 by omega) with rfl | rfl
            · exact h1
            · exact h2)
        have hl1 := hexv_lt (rd (bytesOf s) (2 * (i : Int)))
        have hl2 := hexv_lt (rd (bytesOf s) (2 * (i : Int) + 1))
        generalize hexv (rd (bytesOf s) (2 * (i : Int))) = h at *
        generalize hexv (rd (bytesOf s) (2 * (i : Int) + 1)) = lo at *
        by_cases hok : 0 ≤ h ∧ 0 ≤ lo
        · have h1 : ¬ h < 0 := by omega
          have h2 : ¬ lo < 0 := by omega
          have hc : W2.cell? ⟨w.heap.size + 1, i, none⟩ = some (.int .u8 (preV (bytesOf s) (2 * i) i)) := by
            rw [cell_of_row _ _ _ _ 22 (0, 0) HP.out]
            have := preL_at (bytesOf s) (2 * i) i hlt
            simp [cellsN, this]
          have hfz : W2.frozen? ⟨w.heap.size + 1, i, none⟩ = false := by simp [World.frozen?, HP.out]
          obtain ⟨hok1, hok2⟩ := hok
          have HN := Aside0.mk (HGN.out hok1 hok2)
          clear hb1 hb2
          go_wp2

          go_roundw
          case rel => exact ⟨i + 1, by omega, by go_num, ⟨(heap_setCell_other W2 _ _ _ (by simp)).trans HZ.out⟩, ⟨by rw [heap_setCell_same W2 _ _ _ 22 _ HP.out, HPT.out, cellsN_set]⟩, ⟨HB.out.setCell (p := ⟨w.heap.size + 1, i, none⟩) (by simp) _⟩, HN⟩
          case measure => simp [intOf]; omega
        · have HBAD := Aside0.mk (show good (bytesOf s) = false by
            by_cases h1 : h < 0
            · exact hb1 h1
            · exact hb2 (by omega))
          clear hb1 hb2 hm ham
          by_cases h1 : h < 0
          · go_wp2_with (first
              | (refine wpList_store_mid rfl 22 (.tmp 2) (.tmp 34) rfl w.heap.size 0 (cellsN zeros32) rfl rfl (there_cs HZ.out rfl) HSZ.out (cellsN_one _) ?_))
            refine ret_arr (n := 32) (e := 5) (t := 22) rfl w.heap.size (0, 0) zeros32 (.bool false) rfl rfl rfl (setCells_row HZ.out _ rfl) h22 HSZ.out ⟨?_, below_setCells (Nat.le_refl _) _ _ _ HB.out⟩
            rw [parse_bad HBAD.out, HBAD.out]
          · have h2 : lo < 0 := by omega
            go_wp2_with (first
              | (refine wpList_store_mid rfl 22 (.tmp 2) (.tmp 34) rfl w.heap.size 0 (cellsN zeros32) rfl rfl (there_cs HZ.out rfl) HSZ.out (cellsN_one _) ?_))
            refine ret_arr (n := 32) (e := 5) (t := 22) rfl w.heap.size (0, 0) zeros32 (.bool false) rfl rfl rfl (setCells_row HZ.out _ rfl) h22 HSZ.out ⟨?_, below_setCells (Nat.le_refl _) _ _ _ HB.out⟩
            rw [parse_bad HBAD.out, HBAD.out]
      · obtain rfl : i = 32 := by omega
        have HGOOD := Aside0.mk (show good (bytesOf s) = true from (good_iff _).2 ⟨by rw [bytesOf_length]; exact hlen, HG.out⟩)
        have HPL := Aside0.mk (preL_full (bytesOf s) (by rw [bytesOf_length]; exact hlen))
        rw [show 2 * 32 = 64 from rfl, HPL.out] at HP
        have HPS := Aside0.mk (show (pairs (bytesOf s)).length = 32 by rw [pairs_length, bytesOf_length, hlen])
        have HSZ := Aside0.mk (show (Try.prog.info? 22).map (·.size) = some (cellsN (pairs (bytesOf s))).size by rw [size22, cellsN_size, HPS.out])
        have HSZ2 := Aside0.mk (show (Try.prog.info? 22).map (·.size) = some (cellsN (pairs (bytesOf s))).toList.length by rw [size22, Array.length_toList, cellsN_size, HPS.out])
        have HZS := Aside0.mk (show (cellsN zeros32).size = (cellsN (pairs (bytesOf s))).size by rw [cellsN_size, cellsN_size, HPS.out]; rfl)
        go_wp2_with (first
          | (refine wpList_load_mid rfl 22 (.tmp 4) rfl (w.heap.size + 1) 0 rfl (cellsN (pairs (bytesOf s))).toList _ (range_cs HP.out) h22 rfl HSZ2.out ?_; rw [Array.toArray_toList])
          | (refine wpList_store_mid rfl 22 (.tmp 2) (.tmp 42) rfl w.heap.size 0 (cellsN (pairs (bytesOf s))) rfl rfl (there_cs HZ.out HZS.out) HSZ.out (cellsN_one _) ?_))
        refine ret_arr (n := 32) (e := 5) (t := 22) rfl w.heap.size (0, 0) (pairs (bytesOf s)) (.bool true) rfl rfl rfl (by have := setCells_row HZ.out (cellsN (pairs (bytesOf s))).toList (by rw [Array.length_toList, HZS.out]); rwa [Array.toArray_toList] at this) h22 HSZ.out ⟨?_, below_setCells (Nat.le_refl _) _ _ _ HB.out⟩
        rw [parse_good HGOOD.out, HGOOD.out]
  · have hn : ¬ ((s.size : Int) = 64) := by omega
    have HBAD := Aside0.mk (show good (bytesOf s) = false by
      cases hb : good (bytesOf s) with
      | false => rfl
      | true => have := ((good_iff _).1 hb).1; rw [bytesOf_length] at this; exact absurd this hlen)
    clear hlen
    go_enter Try.func14, Try.ntmps14
    go_wp2_with (first
      | (refine wpList_store_mid (w := (w.alloc (.cells (cellsN zeros32) 22)).alloc (.cells (cellsN zeros32) 22)) rfl 22 (.tmp 4) (.tmp 8) rfl (w.heap.size + 1) 0 (cellsN zeros32) rfl rfl (there_cs HN2.out rfl) HSZ.out (cellsN_one _) ?_; rw [HW1.out])
      | (refine wpList_load_mid rfl 22 (.tmp 4) rfl (w.heap.size + 1) 0 rfl (cellsN zeros32).toList _ (range_cs HZ2.out) h22 rfl HSZ2.out ?_; rw [Array.toArray_toList])
      | (refine wpList_store_mid rfl 22 (.tmp 2) (.tmp 12) rfl w.heap.size 0 (cellsN zeros32) rfl rfl (there_cs HZ1.out rfl) HSZ.out (cellsN_one _) ?_))
    refine ret_arr (n := 32) (e := 5) (t := 22) rfl w.heap.size (0, 0) zeros32 (.bool false) rfl rfl rfl (setCells_row HZ1.out _ rfl) h22 HSZ.out ⟨?_, below_setCells (Nat.le_refl _) _ _ _ HB.out⟩
    rw [parse_bad HBAD.out, HBAD.out]
end Go.Proofs.Ytcpcellocnojcaa

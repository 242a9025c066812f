import Derived.Test.YtcpcellocnojcaaCmpN
namespace Go.Proofs.Ytcpcellocnojcaa
open Go Go.RowKit Go.Proofs.YtcpcellocnojcaaW.PrintWords
set_option linter.unusedVariables false
set_option linter.unusedSimpArgs false

theorem enter31 (vs : Array Value) (W : World) : (callFunc 31 vs).run Try.prog W = .ok (.enter 31 vs) W := enter_of Try.func31 (by rfl) (by decide +kernel) vs W
theorem compare_v (A B : Addr) (a b : List Int) (w : World) (n : Nat) (la : a.length = n) (lb : b.length = n) (ha : (Kd.int .u8).C w (some A) n a) (hb : (Kd.int .u8).C w (some B) n b)
    (wa : ∀ x ∈ a, 0 ≤ x ∧ x < 256) (wb : ∀ x ∈ b, 0 ≤ x ∧ x < 256) :
    Calls Try.prog 31 #[.slice (some A) n n, .slice (some B) n n] w fun e w' => ∃ u, e = .returned u ∧ u = .int .i64 (cmpI a b) ∧ w' = w := by
  subst la
  rw [← lb] at hb
  have := compare_any A B a.length a.length a b w ha hb wa wb
  rw [lb] at this
  exact this.mono fun _ _ ⟨he, hw⟩ => ⟨_, he, rfl, hw⟩

set_option maxHeartbeats 2000000 in
set_option maxRecDepth 20000 in
theorem cmp_any (c1 c2 : Array Value) (a b : List Int) (w : World) (ha : Arr 32 c1 a) (hb : Arr 32 c2 b) :
    Calls Try.prog 15 #[.agg c1, .agg c2] w fun e w' => e = .returned (.int .i64 (cmpI a b)) ∧ Below w.heap.size w w' := by
  have HA := Aside0.mk ha
  have HB := Aside0.mk hb
  have HC1 := Aside0.mk (show (Kd.int .u8).C ((w.alloc (.cells c1 23)).alloc (.cells c2 23)).drew (some ⟨w.heap.size, 0, none⟩) 32 a by
    have := C_block (heap_alloc2_old w (.cells c1 23) (.cells c2 23)) a HA.out.at_ (by rw [HA.out.len]; decide)
    rw [HA.out.len] at this
    exact Kd.C_below this (below_drew1 (Below.refl _ _)))
  have HC2 := Aside0.mk (show (Kd.int .u8).C ((w.alloc (.cells c1 23)).alloc (.cells c2 23)).drew (some ⟨w.heap.size + 1, 0, none⟩) 32 b by
    have := C_block (heap_alloc2_new w (.cells c1 23) (.cells c2 23)) b HB.out.at_ (by rw [HB.out.len]; decide)
    rw [HB.out.len] at this
    exact Kd.C_below this (below_drew1 (Below.refl _ _)))
  have HW := Aside0.mk (below_drew1 (below_alloc (below_alloc (Below.refl w.heap.size w) (.cells c1 23)) (.cells c2 23)))
  clear ha hb
  go_enter Try.func15, Try.ntmps15
  go_wp2_with fail
  refine wp_region_noPanic ?_
  refine wp_region_held_drew (S := (fun _ => True)) (by kernel_rfl) ?_ (fun hHeld => ?_)
  · exact trivial
  refine wpAnyH_take (i := 0) (oi := { dst := some 5, op := Go.Op.slice 23 (Go.Operand.tmp 2) none none none, type := 32, pos := "sha.go:120", after := #[], guard := none }) (v := ?_) rfl (by kernel_rfl) (by kernel_rfl) (by kernel_rfl) (fun _ _ _ h => h) (Or.inl ⟨by rfl, ?_⟩) hHeld ?_
  rotate_left
  · intro w hSw; go_simp; with_reducible rfl
  try simp only [Act.put, List.setIfInBounds_toArray, List.set_cons_zero, List.set_cons_succ]
  refine wpAnyH_take (i := 1) (oi := { dst := some 6, op := Go.Op.slice 23 (Go.Operand.tmp 3) none none none, type := 32, pos := "sha.go:120", after := #[], guard := none }) (v := ?_) rfl (by kernel_rfl) (by kernel_rfl) (by kernel_rfl) (fun _ _ _ h => h) (Or.inl ⟨by rfl, ?_⟩) hHeld ?_
  rotate_left
  · intro w hSw; go_simp; with_reducible rfl
  try simp only [Act.put, List.setIfInBounds_toArray, List.set_cons_zero, List.set_cons_succ]
  refine wpAnyH_ready (rs := [2]) (by kernel_rfl) (by simp) ?_
  refine AllReadyH.cons (o := { dst := some 7, op := Go.Op.call { callee := Go.Callee.value (Go.Operand.func 31), args := #[Go.Operand.tmp 5, Go.Operand.tmp 6], argTypes := #[32, 32] }, type := 3, pos := "sha.go:120", after := #[{ on := 0, ground := Go.Ground.data }, { on := 1, ground := Go.Ground.data }], guard := none }) rfl (fun K hK => ?_) AllReadyH.nil
  refine step_call2 (f := 31) (x := .tmp 5) (y := .tmp 6) (v := .slice (some ⟨w.heap.size, 0, none⟩) 32 32) (u := .slice (some ⟨w.heap.size + 1, 0, none⟩) 32 32) (by rfl) rfl (by first | rfl | simp) (by first | rfl | simp) enter31 (compare_v _ _ a b _ 32 HA.out.len HB.out.len HC1.out HC2.out HA.out.wf HB.out.wf) ?_
  rintro v1 w1 ⟨rfl, rfl⟩
  refine hK.out _ _ (trivial) (fun hHeld => ?_)
  clear hK K
  try simp only [Act.put, List.setIfInBounds_toArray, List.set_cons_zero, List.set_cons_succ]
  refine wpAnyH_take (i := 3) (oi := { dst := some 4, op := Go.Op.assign (Go.Operand.tmp 7), type := 3, pos := "sha.go:120", after := #[{ on := 2, ground := Go.Ground.data }, { on := 2, ground := Go.Ground.chain }, { on := 0, ground := Go.Ground.phase }, { on := 1, ground := Go.Ground.phase }, { on := 2, ground := Go.Ground.phase }], guard := none }) (v := ?_) rfl (by kernel_rfl) (by kernel_rfl) (by kernel_rfl) (fun _ _ _ h => h) (Or.inl ⟨by rfl, ?_⟩) hHeld ?_
  rotate_left
  · intro w hSw; go_simp; with_reducible rfl
  try simp only [Act.put, List.setIfInBounds_toArray, List.set_cons_zero, List.set_cons_succ]
  refine wpAnyH_done (by kernel_rfl) ?_ _
  refine NoPanic.normal ?_
  go_wp2
  go_ret
  exact ⟨rfl, HW.out⟩

set_option maxHeartbeats 2000000 in
set_option maxRecDepth 20000 in
theorem refCmp_any (c1 c2 : Array Value) (a b : List Int) (w : World) (ha : Arr 32 c1 a) (hb : Arr 32 c2 b) :
    Calls Try.prog 16 #[.agg c1, .agg c2] w fun e w' => e = .returned (.int .i64 (cmpI a b)) ∧ Below w.heap.size w w' := by
  have HA := Aside0.mk ha
  have HB := Aside0.mk hb
  have HC1 := Aside0.mk (C_block (heap_alloc2_old w (.cells c1 22) (.cells c2 22)) a HA.out.at_ (by rw [HA.out.len]; decide))
  have HC2 := Aside0.mk (C_block (heap_alloc2_new w (.cells c1 22) (.cells c2 22)) b HB.out.at_ (by rw [HB.out.len]; decide))
  have HW := Aside0.mk (below_alloc (below_alloc (Below.refl w.heap.size w) (.cells c1 22)) (.cells c2 22))
  clear ha hb
  go_enter Try.func16, Try.ntmps16
  go_wp2
  go_loopw [5] (fun v wr => ∃ i : Nat, i ≤ 32 ∧ v = .int .i64 i ∧ Aside0 (Below ((w.alloc (.cells c1 22)).alloc (.cells c2 22)).heap.size ((w.alloc (.cells c1 22)).alloc (.cells c2 22)) wr) ∧ Aside0 (a.take i = b.take i)) (fun v wr => (32 - intOf v).toNat)
  case atStart => exact ⟨0, by omega, rfl, ⟨Below.refl _ _⟩, ⟨rfl⟩⟩
  case round =>
    obtain ⟨i, hi, rfl, HB1, HT⟩ := hrel
    by_cases hlt : i < 32
    · have hia : i < a.length := by rw [HA.out.len]; exact hlt
      have hib : i < b.length := by rw [HB.out.len]; exact hlt
      have HI := Aside0.mk (cmpI_at a b i hia hib HT.out)
      have HTN := Aside0.mk (show rd a i = rd b i → a.take (i + 1) = b.take (i + 1) from fun h => by
        rw [List.take_succ_eq_append_getElem hia, List.take_succ_eq_append_getElem hib, HT.out]
        simp [rd, hia, hib] at h
        rw [h])
      have hr1 : 0 ≤ rd a i ∧ rd a i < 256 := HA.out.wf _ (by simp [rd, hia])
      have hr2 : 0 ≤ rd b i ∧ rd b i < 256 := HB.out.wf _ (by simp [rd, hib])
      have hcell1 : ∀ w', Below ((w.alloc (.cells c1 22)).alloc (.cells c2 22)).heap.size ((w.alloc (.cells c1 22)).alloc (.cells c2 22)) w' → w'.cell? ⟨w.heap.size, i, none⟩ = some (.int .u8 (rd a i)) := fun w' hb => by
        obtain ⟨ad, ha, hx⟩ := (at_nat (Kd.C_below HC1.out hb) i hia)
        injection ha with ha
        subst ha
        rw [add_plain] at hx
        simpa using hx
      have hcell2 : ∀ w', Below ((w.alloc (.cells c1 22)).alloc (.cells c2 22)).heap.size ((w.alloc (.cells c1 22)).alloc (.cells c2 22)) w' → w'.cell? ⟨w.heap.size + 1, i, none⟩ = some (.int .u8 (rd b i)) := fun w' hb => by
        obtain ⟨ad, ha, hx⟩ := (at_nat (Kd.C_below HC2.out hb) i hib)
        injection ha with ha
        subst ha
        rw [add_plain] at hx
        simpa using hx
      clear hia hib
      generalize rd a i = x at *
      generalize rd b i = y at *
      have HB1 := Aside0.mk (below_drew1 HB1.out)
      go_wp2_with fail
      refine wp_region_noPanic ?_
      refine wp_region_held_drew (S := (fun w' => Below ((w.alloc (.cells c1 22)).alloc (.cells c2 22)).heap.size ((w.alloc (.cells c1 22)).alloc (.cells c2 22)) w')) (by kernel_rfl) ?_ (fun hHeld => ?_)
      · exact HB1.out
      refine wpAnyH_take (i := 0) (oi := { dst := some 10, op := Go.Op.move (Go.Operand.tmp 5), type := 3, pos := "ref.go:220", after := #[], guard := none }) (v := ?_) rfl (by kernel_rfl) (by kernel_rfl) (by kernel_rfl) (fun _ _ _ h => h) (Or.inl ⟨by rfl, ?_⟩) hHeld ?_
      rotate_left
      · intro w hSw; go_simp; with_reducible rfl
      try simp only [Act.put, List.setIfInBounds_toArray, List.set_cons_zero, List.set_cons_succ]
      refine wpAnyH_take (i := 1) (oi := { dst := some 11, op := Go.Op.indexAddr 22 (Go.Operand.tmp 2) (Go.Operand.tmp 10), type := 0, pos := "ref.go:220", after := #[{ on := 0, ground := Go.Ground.data }], guard := none }) (v := ?_) rfl (by kernel_rfl) (by kernel_rfl) (by kernel_rfl) (fun _ _ _ h => h) (Or.inl ⟨by rfl, ?_⟩) hHeld ?_
      rotate_left
      · intro w hSw; go_simp; with_reducible rfl
      try simp only [Act.put, List.setIfInBounds_toArray, List.set_cons_zero, List.set_cons_succ]
      refine wpAnyH_take (i := 2) (oi := { dst := some 12, op := Go.Op.load 5 (Go.Operand.tmp 11), type := 5, pos := "ref.go:220", after := #[{ on := 1, ground := Go.Ground.data }], guard := none }) (v := _) rfl (by kernel_rfl) (by kernel_rfl) (by kernel_rfl) (fun _ _ _ h => h) ((show YieldsIf _ _ _ _ (.int .u8 x) _ from Or.inl ⟨by rfl, fun w hSw => by have hc := hcell1 w hSw; go_simp⟩)) hHeld ?_
      try simp only [Act.put, List.setIfInBounds_toArray, List.set_cons_zero, List.set_cons_succ]
      refine wpAnyH_take (i := 3) (oi := { dst := some 13, op := Go.Op.move (Go.Operand.tmp 5), type := 3, pos := "ref.go:220", after := #[], guard := none }) (v := ?_) rfl (by kernel_rfl) (by kernel_rfl) (by kernel_rfl) (fun _ _ _ h => h) (Or.inl ⟨by rfl, ?_⟩) hHeld ?_
      rotate_left
      · intro w hSw; go_simp; with_reducible rfl
      try simp only [Act.put, List.setIfInBounds_toArray, List.set_cons_zero, List.set_cons_succ]
      refine wpAnyH_take (i := 4) (oi := { dst := some 14, op := Go.Op.indexAddr 22 (Go.Operand.tmp 3) (Go.Operand.tmp 13), type := 0, pos := "ref.go:220", after := #[{ on := 3, ground := Go.Ground.data }], guard := none }) (v := ?_) rfl (by kernel_rfl) (by kernel_rfl) (by kernel_rfl) (fun _ _ _ h => h) (Or.inl ⟨by rfl, ?_⟩) hHeld ?_
      rotate_left
      · intro w hSw; go_simp; with_reducible rfl
      try simp only [Act.put, List.setIfInBounds_toArray, List.set_cons_zero, List.set_cons_succ]
      refine wpAnyH_take (i := 5) (oi := { dst := some 15, op := Go.Op.load 5 (Go.Operand.tmp 14), type := 5, pos := "ref.go:220", after := #[{ on := 4, ground := Go.Ground.data }], guard := none }) (v := _) rfl (by kernel_rfl) (by kernel_rfl) (by kernel_rfl) (fun _ _ _ h => h) ((show YieldsIf _ _ _ _ (.int .u8 y) _ from Or.inl ⟨by rfl, fun w hSw => by have hc := hcell2 w hSw; go_simp⟩)) hHeld ?_
      try simp only [Act.put, List.setIfInBounds_toArray, List.set_cons_zero, List.set_cons_succ]
      refine wpAnyH_take (i := 6) (oi := { dst := some 16, op := Go.Op.binOp Go.BinOp.lss 5 (Go.Operand.tmp 12) (Go.Operand.tmp 15) 5, type := 4, pos := "ref.go:220", after := #[{ on := 2, ground := Go.Ground.data }, { on := 5, ground := Go.Ground.data }], guard := none }) (v := ?_) rfl (by kernel_rfl) (by kernel_rfl) (by kernel_rfl) (fun _ _ _ h => h) (Or.inl ⟨by rfl, ?_⟩) hHeld ?_
      rotate_left
      · intro w hSw; go_simp; with_reducible rfl
      try simp only [Act.put, List.setIfInBounds_toArray, List.set_cons_zero, List.set_cons_succ]
      refine wpAnyH_done (by kernel_rfl) ?_ _
      refine NoPanic.normal ?_
      by_cases h1 : x < y
      · go_wp2
        go_ret
        exact ⟨by rw [HI.out.1 h1]; rfl, below_step HW.out HB1.out⟩
      · have HB1 := Aside0.mk (below_drew1 HB1.out)
        go_wp2_with fail
        refine wp_region_noPanic ?_
        refine wp_region_held_drew (S := (fun w' => Below ((w.alloc (.cells c1 22)).alloc (.cells c2 22)).heap.size ((w.alloc (.cells c1 22)).alloc (.cells c2 22)) w')) (by kernel_rfl) ?_ (fun hHeld => ?_)
        · exact HB1.out
        refine wpAnyH_take (i := 0) (oi := { dst := some 17, op := Go.Op.move (Go.Operand.tmp 5), type := 3, pos := "ref.go:223", after := #[], guard := none }) (v := ?_) rfl (by kernel_rfl) (by kernel_rfl) (by kernel_rfl) (fun _ _ _ h => h) (Or.inl ⟨by rfl, ?_⟩) hHeld ?_
        rotate_left
        · intro w hSw; go_simp; with_reducible rfl
        try simp only [Act.put, List.setIfInBounds_toArray, List.set_cons_zero, List.set_cons_succ]
        refine wpAnyH_take (i := 1) (oi := { dst := some 18, op := Go.Op.indexAddr 22 (Go.Operand.tmp 2) (Go.Operand.tmp 17), type := 0, pos := "ref.go:223", after := #[{ on := 0, ground := Go.Ground.data }], guard := none }) (v := ?_) rfl (by kernel_rfl) (by kernel_rfl) (by kernel_rfl) (fun _ _ _ h => h) (Or.inl ⟨by rfl, ?_⟩) hHeld ?_
        rotate_left
        · intro w hSw; go_simp; with_reducible rfl
        try simp only [Act.put, List.setIfInBounds_toArray, List.set_cons_zero, List.set_cons_succ]
        refine wpAnyH_take (i := 2) (oi := { dst := some 19, op := Go.Op.load 5 (Go.Operand.tmp 18), type := 5, pos := "ref.go:223", after := #[{ on := 1, ground := Go.Ground.data }], guard := none }) (v := _) rfl (by kernel_rfl) (by kernel_rfl) (by kernel_rfl) (fun _ _ _ h => h) ((show YieldsIf _ _ _ _ (.int .u8 x) _ from Or.inl ⟨by rfl, fun w hSw => by have hc := hcell1 w hSw; go_simp⟩)) hHeld ?_
        try simp only [Act.put, List.setIfInBounds_toArray, List.set_cons_zero, List.set_cons_succ]
        refine wpAnyH_take (i := 3) (oi := { dst := some 20, op := Go.Op.move (Go.Operand.tmp 5), type := 3, pos := "ref.go:223", after := #[], guard := none }) (v := ?_) rfl (by kernel_rfl) (by kernel_rfl) (by kernel_rfl) (fun _ _ _ h => h) (Or.inl ⟨by rfl, ?_⟩) hHeld ?_
        rotate_left
        · intro w hSw; go_simp; with_reducible rfl
        try simp only [Act.put, List.setIfInBounds_toArray, List.set_cons_zero, List.set_cons_succ]
        refine wpAnyH_take (i := 4) (oi := { dst := some 21, op := Go.Op.indexAddr 22 (Go.Operand.tmp 3) (Go.Operand.tmp 20), type := 0, pos := "ref.go:223", after := #[{ on := 3, ground := Go.Ground.data }], guard := none }) (v := ?_) rfl (by kernel_rfl) (by kernel_rfl) (by kernel_rfl) (fun _ _ _ h => h) (Or.inl ⟨by rfl, ?_⟩) hHeld ?_
        rotate_left
        · intro w hSw; go_simp; with_reducible rfl
        try simp only [Act.put, List.setIfInBounds_toArray, List.set_cons_zero, List.set_cons_succ]
        refine wpAnyH_take (i := 5) (oi := { dst := some 22, op := Go.Op.load 5 (Go.Operand.tmp 21), type := 5, pos := "ref.go:223", after := #[{ on := 4, ground := Go.Ground.data }], guard := none }) (v := _) rfl (by kernel_rfl) (by kernel_rfl) (by kernel_rfl) (fun _ _ _ h => h) ((show YieldsIf _ _ _ _ (.int .u8 y) _ from Or.inl ⟨by rfl, fun w hSw => by have hc := hcell2 w hSw; go_simp⟩)) hHeld ?_
        try simp only [Act.put, List.setIfInBounds_toArray, List.set_cons_zero, List.set_cons_succ]
        refine wpAnyH_take (i := 6) (oi := { dst := some 23, op := Go.Op.binOp Go.BinOp.gtr 5 (Go.Operand.tmp 19) (Go.Operand.tmp 22) 5, type := 4, pos := "ref.go:223", after := #[{ on := 2, ground := Go.Ground.data }, { on := 5, ground := Go.Ground.data }], guard := none }) (v := ?_) rfl (by kernel_rfl) (by kernel_rfl) (by kernel_rfl) (fun _ _ _ h => h) (Or.inl ⟨by rfl, ?_⟩) hHeld ?_
        rotate_left
        · intro w hSw; go_simp; with_reducible rfl
        try simp only [Act.put, List.setIfInBounds_toArray, List.set_cons_zero, List.set_cons_succ]
        refine wpAnyH_done (by kernel_rfl) ?_ _
        refine NoPanic.normal ?_
        by_cases h2 : y < x
        · go_wp2
          go_ret
          exact ⟨by rw [HI.out.2 h2]; rfl, below_step HW.out HB1.out⟩
        · go_wp2
          go_roundw
          case rel => exact ⟨i + 1, by omega, by go_num, HB1, ⟨HTN.out (by omega)⟩⟩
          case measure => simp [intOf]; omega
    · obtain rfl : i = 32 := by omega
      have hab : a = b := by
        have := HT.out
        rwa [List.take_of_length_le (by rw [HA.out.len]; decide), List.take_of_length_le (by rw [HB.out.len]; decide)] at this
      have HZ := Aside0.mk ((cmpI_zero a b).2 hab)
      clear hab
      go_wp2
      go_ret
      exact ⟨by rw [HZ.out]; rfl, below_step HW.out HB1.out⟩
end Go.Proofs.Ytcpcellocnojcaa

import Derived.Test.YtcpcellocnojcaaHex
import Derived.Great.BuildSlice
namespace Go.Proofs.Ytcpcellocnojcaa
open Go Go.RowKit Go.Proofs.YtcpcellocnojcaaW.PrintWords
set_option linter.unusedVariables false
set_option linter.unusedSimpArgs false

theorem R_emptyAt {α : Type} (d : Kd α) (W : World) (base e g : Nat) (hb : base ≤ W.heap.size) (hg : g = W.heap.size) : d.R e (W.alloc (.cells #[] e)) base (fun _ => True) (.slice (some ⟨g, 0, none⟩) 0 0) [] := by
  subst hg
  exact R_empty d W base e hb

theorem step_two {ops : Array Oper} {o : Oper} {a : Act} {Q : Exit → Act → World → Prop} {K : Act → World → Prop} {W : World} {E : Prop} (hw : Region.wanted o (yielded ops a.tmps) = true) (x y : Operand)
    (ho : o.op = .buildSlice 32 2 #[(0, x), (1, y)]) (u v : Int) (hx : a.eval x = .int .u8 u) (hy : a.eval y = .int .u8 v)
    (h : K (a.put o.dst (.slice (some ⟨W.heap.size, 0, none⟩) 2 2)) (W.alloc (.cells #[.int .u8 u, .int .u8 v] 5))) :
    if Region.wanted o (yielded ops a.tmps) = true then Oper.wp Try.prog o a W K Q else E := by
  rw [if_pos hw]
  obtain ⟨i0, hi, hzz⟩ := Option.map_eq_some_iff.1 info5
  simp only [Prod.mk.injEq] at hzz
  obtain ⟨hz0, hz1, hz2⟩ := hzz
  refine wp_buildSlice 32 5 2 _ ho _ i0 (.int .u8 0) Try.underlying32 hi hz0 (by rw [hz1]; decide) (by rw [hz1]; decide) ?_ h
  rw [hz1, show Array.range (2 * 1) = #[0, 1] from by decide +kernel]
  simp [hx, hy, Instr.fill, Value.cells]
theorem yields_dig {ops : Array Oper} {S : World → Prop} {op : Oper} {a : Act} (hw : Region.wanted op (yielded ops a.tmps) = true) (y : Operand)
    (ho : op.op = .index 9 (.const (.string ⟨#[48, 49, 50, 51, 52, 53, 54, 55, 56, 57, 97, 98, 99, 100, 101, 102]⟩)) y) (x : Int) (hy : a.eval y = .int .u8 x) (h0 : 0 ≤ x) (h : x < 16) :
    YieldsIf Try.prog ops S op (.int .u8 (rd dig x)) a := .inl ⟨hw, fun w _ => by
    unfold execOp
    simp only [ho, hy, Sem.run_bind, Sem.run_pure, Result.andThen_ok]
    have he : a.eval (.const (.string ⟨#[48, 49, 50, 51, 52, 53, 54, 55, 56, 57, 97, 98, 99, 100, 101, 102]⟩)) = .string ⟨#[48, 49, 50, 51, 52, 53, 54, 55, 56, 57, 97, 98, 99, 100, 101, 102]⟩ := rfl
    rw [he, index_dig .u8 x h0 h w]
    rfl⟩

set_option maxHeartbeats 2000000 in
set_option maxRecDepth 20000 in
theorem refHex_any (cs : Array Value) (b : List Int) (w : World) (ha : Arr 32 cs b) :
    Calls Try.prog 12 #[.agg cs] w fun e w' => e = .returned (.string (strOfNums (hexL b))) ∧ Below w.heap.size w w' := by
  have HA := Aside0.mk ha
  clear ha
  go_enter Try.func12, Try.ntmps12
  have HW := Aside0.mk (below_alloc (Below.refl w.heap.size w) (.cells cs 22))
  have HC := Aside0.mk (C_new w cs 22 (0, 0) b HA.out.at_ (by rw [HA.out.len]; decide))
  go_wp2
  go_loopw [3, 4] (fun v i wr => ∃ k : Nat, k ≤ 32 ∧ i = .int .i64 k ∧ Aside0 ((Kd.int .u8).R 5 wr (w.alloc (.cells cs 22)).heap.size (fun _ => True) v (hexL (b.take k))) ∧ Aside0 (Below (w.alloc (.cells cs 22)).heap.size (w.alloc (.cells cs 22)) wr)) (fun v i wr => (32 - intOf i).toNat)
  case atStart => exact ⟨0, by omega, rfl, ⟨R_emptyAt _ _ _ _ _ (Nat.le_refl _) (by simp)⟩, ⟨below_alloc (Below.refl _ _) _⟩⟩
  case round =>
    obtain ⟨k, hk, rfl, HO, HB1⟩ := hrel
    by_cases hlt : k < 32
    · have hkb : k < b.length := by rw [HA.out.len]; exact hlt
      obtain ⟨x, hxx⟩ : ∃ x, rd b k = x := ⟨_, rfl⟩
      have hcell : ∀ w', Below (w.alloc (.cells cs 22)).heap.size (w.alloc (.cells cs 22)) w' → w'.cell? ⟨w.heap.size, k, none⟩ = some (.int .u8 x) := fun w' hb => by
        obtain ⟨ad, ha, hx⟩ := (at_nat (Kd.C_below HC.out hb) k hkb)
        injection ha with ha
        subst ha
        rw [add_plain, hxx] at hx
        simpa using hx
      have HX := Aside0.mk hxx
      have hx0 : 0 ≤ x ∧ x < 256 := HA.out.wf x (by rw [← hxx]; simp [rd, hkb])
      have HT := Aside0.mk (show b.take (k + 1) = b.take k ++ [x] by
        rw [List.take_succ_eq_append_getElem hkb, ← hxx]; simp [rd, hkb])
      have HL := Aside0.mk (show (hexL (b.take k)).length ≤ 64 by
        rw [hexL_length, List.length_take]; omega)
      clear hxx hkb
      have hq1 : IntKind.u8.wrap (x.tdiv 16) = x / 16 := by rw [Int.tdiv_eq_ediv_of_nonneg hx0.1]; rw [IntKind.wrap_u8]; omega
      have hq2 : IntKind.u8.wrap (x.tmod 16) = x % 16 := by rw [Int.tmod_eq_emod_of_nonneg hx0.1]; rw [IntKind.wrap_u8]; omega
      have hq3 : x.tmod 16 = x % 16 := Int.tmod_eq_emod_of_nonneg hx0.1
      have HB1 := Aside0.mk (below_drew1 HB1.out)
      have HO := Aside0.mk (show (Kd.int .u8).R 5 wr.drew (w.alloc (.cells cs 22)).heap.size (fun _ => True) u3 (hexL (b.take k)) from HO.out)
      go_wp2_with fail
      refine wp_region_noPanic ?_
      refine wp_region_held_drew (S := (fun w' => Below (w.alloc (.cells cs 22)).heap.size (w.alloc (.cells cs 22)) w')) (by kernel_rfl) ?_ (fun hHeld => ?_)
      · exact HB1.out
      refine wpAnyH_take (i := 0) (oi := { dst := some 10, op := Go.Op.move (Go.Operand.tmp 3), type := 32, pos := "ref.go:185", after := #[], guard := none }) (v := ?_) rfl (by kernel_rfl) (by kernel_rfl) (by kernel_rfl) (fun _ _ _ h => h) (Or.inl ⟨by rfl, ?_⟩) hHeld ?_
      rotate_left
      · intro w hSw; go_simp; with_reducible rfl
      try simp only [Act.put, List.setIfInBounds_toArray, List.set_cons_zero, List.set_cons_succ]
      refine wpAnyH_take (i := 1) (oi := { dst := some 11, op := Go.Op.move (Go.Operand.tmp 4), type := 3, pos := "ref.go:185", after := #[], guard := none }) (v := ?_) rfl (by kernel_rfl) (by kernel_rfl) (by kernel_rfl) (fun _ _ _ h => h) (Or.inl ⟨by rfl, ?_⟩) hHeld ?_
      rotate_left
      · intro w hSw; go_simp; with_reducible rfl
      try simp only [Act.put, List.setIfInBounds_toArray, List.set_cons_zero, List.set_cons_succ]
      refine wpAnyH_take (i := 2) (oi := { dst := some 12, op := Go.Op.indexAddr 22 (Go.Operand.tmp 1) (Go.Operand.tmp 11), type := 0, pos := "ref.go:185", after := #[{ on := 1, ground := Go.Ground.data }], guard := none }) (v := ?_) rfl (by kernel_rfl) (by kernel_rfl) (by kernel_rfl) (fun _ _ _ h => h) (Or.inl ⟨by rfl, ?_⟩) hHeld ?_
      rotate_left
      · intro w hSw; go_simp; with_reducible rfl
      try simp only [Act.put, List.setIfInBounds_toArray, List.set_cons_zero, List.set_cons_succ]
      refine wpAnyH_take (i := 3) (oi := { dst := some 13, op := Go.Op.load 5 (Go.Operand.tmp 12), type := 5, pos := "ref.go:185", after := #[{ on := 2, ground := Go.Ground.data }], guard := none }) (v := _) rfl (by kernel_rfl) (by kernel_rfl) (by kernel_rfl) (fun _ _ _ h => h) ((show YieldsIf _ _ _ _ (.int .u8 x) _ from Or.inl ⟨by rfl, fun w hSw => by have hc := hcell w hSw; go_simp⟩)) hHeld ?_
      try simp only [Act.put, List.setIfInBounds_toArray, List.set_cons_zero, List.set_cons_succ]
      refine wpAnyH_take (i := 4) (oi := { dst := some 14, op := Go.Op.binOp Go.BinOp.quo 5 (Go.Operand.tmp 13) (Go.Operand.const (Go.Value.int Go.IntKind.u8 16)) 5, type := 5, pos := "ref.go:185", after := #[{ on := 3, ground := Go.Ground.data }], guard := none }) (v := _) rfl (by kernel_rfl) (by kernel_rfl) (by kernel_rfl) (fun _ _ _ h => h) ((show YieldsIf _ _ _ _ (.int .u8 (x / 16)) _ from Or.inl ⟨by rfl, fun w hSw => by go_simp; try simp only [hq1]⟩)) hHeld ?_
      try simp only [Act.put, List.setIfInBounds_toArray, List.set_cons_zero, List.set_cons_succ]
      refine wpAnyH_take (i := 5) (oi := { dst := some 15, op := Go.Op.index 9 (Go.Operand.const (Go.Value.string { data := #[48, 49, 50, 51, 52, 53, 54, 55, 56, 57, 97, 98, 99, 100, 101, 102] })) (Go.Operand.tmp 14), type := 5, pos := "ref.go:185", after := #[{ on := 4, ground := Go.Ground.data }], guard := none }) (v := _) rfl (by kernel_rfl) (by kernel_rfl) (by kernel_rfl) (fun _ _ _ h => h) (yields_dig (by rfl) (.tmp 14) rfl (x / 16) rfl (by omega) (by omega)) hHeld ?_
      try simp only [Act.put, List.setIfInBounds_toArray, List.set_cons_zero, List.set_cons_succ]
      refine wpAnyH_take (i := 6) (oi := { dst := some 16, op := Go.Op.move (Go.Operand.tmp 4), type := 3, pos := "ref.go:185", after := #[], guard := none }) (v := ?_) rfl (by kernel_rfl) (by kernel_rfl) (by kernel_rfl) (fun _ _ _ h => h) (Or.inl ⟨by rfl, ?_⟩) hHeld ?_
      rotate_left
      · intro w hSw; go_simp; with_reducible rfl
      try simp only [Act.put, List.setIfInBounds_toArray, List.set_cons_zero, List.set_cons_succ]
      refine wpAnyH_take (i := 7) (oi := { dst := some 17, op := Go.Op.indexAddr 22 (Go.Operand.tmp 1) (Go.Operand.tmp 16), type := 0, pos := "ref.go:185", after := #[{ on := 6, ground := Go.Ground.data }], guard := none }) (v := ?_) rfl (by kernel_rfl) (by kernel_rfl) (by kernel_rfl) (fun _ _ _ h => h) (Or.inl ⟨by rfl, ?_⟩) hHeld ?_
      rotate_left
      · intro w hSw; go_simp; with_reducible rfl
      try simp only [Act.put, List.setIfInBounds_toArray, List.set_cons_zero, List.set_cons_succ]
      refine wpAnyH_take (i := 8) (oi := { dst := some 18, op := Go.Op.load 5 (Go.Operand.tmp 17), type := 5, pos := "ref.go:185", after := #[{ on := 7, ground := Go.Ground.data }], guard := none }) (v := _) rfl (by kernel_rfl) (by kernel_rfl) (by kernel_rfl) (fun _ _ _ h => h) ((show YieldsIf _ _ _ _ (.int .u8 x) _ from Or.inl ⟨by rfl, fun w hSw => by have hc := hcell w hSw; go_simp⟩)) hHeld ?_
      try simp only [Act.put, List.setIfInBounds_toArray, List.set_cons_zero, List.set_cons_succ]
      refine wpAnyH_take (i := 9) (oi := { dst := some 19, op := Go.Op.binOp Go.BinOp.rem 5 (Go.Operand.tmp 18) (Go.Operand.const (Go.Value.int Go.IntKind.u8 16)) 5, type := 5, pos := "ref.go:185", after := #[{ on := 8, ground := Go.Ground.data }], guard := none }) (v := _) rfl (by kernel_rfl) (by kernel_rfl) (by kernel_rfl) (fun _ _ _ h => h) ((show YieldsIf _ _ _ _ (.int .u8 (x % 16)) _ from Or.inl ⟨by rfl, fun w hSw => by go_simp; try simp only [hq3]⟩)) hHeld ?_
      try simp only [Act.put, List.setIfInBounds_toArray, List.set_cons_zero, List.set_cons_succ]
      refine wpAnyH_take (i := 10) (oi := { dst := some 20, op := Go.Op.index 9 (Go.Operand.const (Go.Value.string { data := #[48, 49, 50, 51, 52, 53, 54, 55, 56, 57, 97, 98, 99, 100, 101, 102] })) (Go.Operand.tmp 19), type := 5, pos := "ref.go:185", after := #[{ on := 9, ground := Go.Ground.data }], guard := none }) (v := _) rfl (by kernel_rfl) (by kernel_rfl) (by kernel_rfl) (fun _ _ _ h => h) (yields_dig (by rfl) (.tmp 19) rfl (x % 16) rfl (by omega) (by omega)) hHeld ?_
      try simp only [Act.put, List.setIfInBounds_toArray, List.set_cons_zero, List.set_cons_succ]
      refine wpAnyH_ready (rs := [11]) (by kernel_rfl) (by simp) ?_
      refine AllReadyH.cons (o := { dst := some 21, op := Go.Op.buildSlice 32 2 #[(0, Go.Operand.tmp 15), (1, Go.Operand.tmp 20)], type := 32, pos := "ref.go:185", after := #[{ on := 5, ground := Go.Ground.data }, { on := 10, ground := Go.Ground.data }], guard := none }) rfl (fun K hK => ?_) AllReadyH.nil
      refine step_two (by rfl) (.tmp 15) (.tmp 20) rfl (rd dig (x / 16)) (rd dig (x % 16)) rfl rfl ?_
      have HC2 := Aside0.mk (C_new wr.drew #[.int .u8 (rd dig (x / 16)), .int .u8 (rd dig (x % 16))] 5 (0, 0) [rd dig (x / 16), rd dig (x % 16)] (fun j hj => by match j, hj with | 0, _ => rfl | 1, _ => rfl) (by simp))
      have HO2 := Aside0.mk (Kd.R_alloc HO.out (.cells #[.int .u8 (rd dig (x / 16)), .int .u8 (rd dig (x % 16))] 5))
      have HB1 := Aside0.mk (below_alloc HB1.out (.cells #[.int .u8 (rd dig (x / 16)), .int .u8 (rd dig (x % 16))] 5))
      refine hK.out _ _ (HB1.out) (fun hHeld => ?_)
      clear hK K
      try simp only [Act.put, List.setIfInBounds_toArray, List.set_cons_zero, List.set_cons_succ]
      refine wpAnyH_ready (rs := [12]) (by kernel_rfl) (by simp) ?_
      refine AllReadyH.cons (o := { dst := some 22, op := Go.Op.call { callee := Go.Callee.builtin Go.Builtin.append, args := #[Go.Operand.tmp 10, Go.Operand.tmp 21], argTypes := #[32, 32] }, type := 32, pos := "ref.go:185", after := #[{ on := 0, ground := Go.Ground.data }, { on := 11, ground := Go.Ground.data }], guard := none }) rfl (fun K hK => ?_) AllReadyH.nil
      refine step_row (w0 := w.alloc (.cells cs 22)) (base := (w.alloc (.cells cs 22)).heap.size) rfl (.tmp 10) (.tmp 21) rfl _ (hexL (b.take k)) [rd dig (x / 16), rd dig (x % 16)] (some ⟨wr.heap.size, 0, none⟩) 2 2 rfl rfl HO2.out HC2.out HB1.out HB1.out.size (by have := HL.out; show _ + 2 ≤ _; omega) ?_
      intro v2 w2 ho2 hb2 hg2
      have HO3 := Aside0.mk ho2
      have HB1 := Aside0.mk hb2
      refine hK.out _ _ (HB1.out) (fun hHeld => ?_)
      clear hK K
      try simp only [Act.put, List.setIfInBounds_toArray, List.set_cons_zero, List.set_cons_succ]
      refine wpAnyH_take (i := 13) (oi := { dst := some 3, op := Go.Op.assign (Go.Operand.tmp 22), type := 32, pos := "ref.go:185", after := #[{ on := 12, ground := Go.Ground.data }, { on := 12, ground := Go.Ground.chain }, { on := 0, ground := Go.Ground.phase }, { on := 1, ground := Go.Ground.phase }, { on := 2, ground := Go.Ground.phase }, { on := 3, ground := Go.Ground.phase }, { on := 4, ground := Go.Ground.phase }, { on := 5, ground := Go.Ground.phase }, { on := 6, ground := Go.Ground.phase }, { on := 7, ground := Go.Ground.phase }, { on := 8, ground := Go.Ground.phase }, { on := 9, ground := Go.Ground.phase }, { on := 10, ground := Go.Ground.phase }, { on := 11, ground := Go.Ground.phase }, { on := 12, ground := Go.Ground.phase }], guard := none }) (v := ?_) rfl (by kernel_rfl) (by kernel_rfl) (by kernel_rfl) (fun _ _ _ h => h) (Or.inl ⟨by rfl, ?_⟩) hHeld ?_
      rotate_left
      · intro w hSw; go_simp; with_reducible rfl
      try simp only [Act.put, List.setIfInBounds_toArray, List.set_cons_zero, List.set_cons_succ]
      refine wpAnyH_done (by kernel_rfl) ?_ _
      refine NoPanic.normal ?_
      go_wp2
      go_roundw
      case rel => exact ⟨k + 1, by omega, by go_num, ⟨by rw [HT.out, hexL_snoc]; exact HO3.out⟩, HB1⟩
      case measure => simp [intOf]; omega
    · obtain rfl : k = 32 := by omega
      rw [List.take_of_length_le (by rw [HA.out.len]; decide)] at HO
      obtain ⟨A1, c1, rfl, _, hC⟩ := Kd.R_reads HO.out
      have hcv := Kd.C_string (P := Try.prog) (src := 32) (dst := 9) (c := c1) Try.underlying32 Try.underlying5 Try.underlying9 hC
      go_wp2
      go_ret
      exact ⟨rfl, below_step HW.out HB1.out⟩
end Go.Proofs.Ytcpcellocnojcaa

/- 'ShaParts': the walk. No condition. -/
import Derived.Test.YtcpcellocnojcaaNamed3
import Derived.Test.YtcpcellocnojcaaAlive
import Derived.Test.YtcpcellocnojcaaEqArr
namespace Go.Proofs.Ytcpcellocnojcaa
open Go Go.RowKit Go.Proofs.YtcpcellocnojcaaW.PrintWords
set_option linter.unusedVariables false
set_option linter.unusedSimpArgs false

theorem enter22 (vs : Array Value) (W : World) : (callFunc 22 vs).run Try.prog W = .ok (.enter 22 vs) W := enter_of Try.func22 (by rfl) (by decide +kernel) vs W
theorem enter23 (vs : Array Value) (W : World) : (callFunc 23 vs).run Try.prog W = .ok (.enter 23 vs) W := enter_of Try.func23 (by rfl) (by decide +kernel) vs W
theorem of_v (A : Option Addr) (c : Nat) (l : List Int) (w : World) (hr : (Kd.int .u8).C w A l.length l) (hb : l.length ≤ 140737488351232) :
    Calls Try.prog 22 #[.slice A l.length c] w fun e w' => ∃ u, e = .returned u ∧ ∃ (g : Nat) (An : Option Addr) (cn : Nat), u = .pointer (some ⟨g, 0, none⟩) ∧ Nmd w' g An cn l false ∧ w.heap.size ≤ g ∧ Below w.heap.size w w' :=
  (of_any A c l w hr (by omega)).mono fun _ _ ⟨g, An, cn, he, hN, hC, hc, hne, hlo, hB⟩ => ⟨_, he, g, An, cn, rfl, ⟨hN, hC, hc, hne⟩, hlo, hB⟩
theorem id_v (w : World) (g : Nat) (A : Option Addr) (c : Nat) (l : List Int) (d : Bool) (h : Nmd w g A c l d) (hl : l.length ≤ 140737488351232) :
    Calls Try.prog 23 #[.pointer (some ⟨g, 0, none⟩)] w fun e w' => ∃ u, e = .returned u ∧ u = .agg (((sumF l).map (Value.int .u8)).toArray) ∧ Asked w g A c l w' :=
  (id_any w g A c l d h hl).mono fun _ _ ⟨he, hq⟩ => ⟨_, he, rfl, hq⟩
theorem slice_mid (W : World) (A : Option Addr) (n c i j : Nat) (k k' : IntKind) (h : i ≤ j) (h2 : j ≤ c) :
    (Instr.sliceAt 32 (.slice A n c) (some (.int k i)) (some (.int k' j)) none).run Try.prog W = .ok (.slice (if c = i then A else A.map (·.add i)) (j - i) (c - i)) W := by
  have hu : Try.prog.underlying 32 = some (.slice (Try.prog.elem 32)) := by rw [elem32]; exact Try.underlying32
  rw [run_sliceAt_slice W 32 _ _ _ _ hu, run_slice_lh W 32 A n c hu k k' (i : Int) (j : Int) (by omega) (by omega) (by omega), elem32, Try.sizeOf5]
  simp [Result.andThen, sliced]
theorem arm_slicem {ops : Array Oper} {rest : List Oper} {a : Act} {w : World} {Q : Exit → Act → World → Prop} {t0 : TypeId} {x y z : Operand} {d : Option Tmp} {ps : String} {af : Array Edge} {A : Option Addr} {n c i j : Nat} {k k' : IntKind}
    (hx : a.eval x = .slice A n c) (hy : a.eval y = .int k i) (hz : a.eval z = .int k' j) (h : i ≤ j) (h2 : j ≤ c)
    (hk : wpList Try.prog ops Q rest (a.put d (.slice (if c = i then A else A.map (·.add i)) (j - i) (c - i))) w) :
    wpList Try.prog ops Q ({ dst := d, op := .slice 32 x (some y) (some z) none, type := t0, pos := ps, after := af, guard := none } :: rest) a w :=
  wpList_plain (o := { dst := d, op := .slice 32 x (some y) (some z) none, type := t0, pos := ps, after := af, guard := none }) rfl fun K hK => by
    unfold Oper.wp execOp
    simp only [Sem.run_bind, Sem.run_pure, Result.andThen_ok, Option.map_some, Option.map_none, hx, hy, hz, slice_mid w A n c i j k k' h h2]
    exact hK _ _ hk
/-- A list's middle. -/
theorem mid_C {w : World} {A : Option Addr} {c : Nat} {a b d : List Int} (hC : (Kd.int .u8).C w A (a ++ b ++ d).length (a ++ b ++ d)) (hc : (a ++ b ++ d).length ≤ c) :
    (Kd.int .u8).C w (if c = a.length then A else A.map (·.add a.length)) b.length b := by
  have hd := Kd.C_drop (m := a.length) hC (by simp) hc
  have e1 : a.length * (Kd.int .u8).sz = a.length := Nat.mul_one _
  have e2 : (a ++ b ++ d).drop a.length = b ++ d := by rw [List.append_assoc, List.drop_left]
  rw [e1, e2] at hd
  have h3 : (Kd.int .u8).C w (if c = a.length then A else A.map (·.add a.length)) (b ++ d).length (b ++ d) := by
    have e3 : (a ++ b ++ d).length - a.length = (b ++ d).length := by simp only [List.length_append]; omega
    first
      | exact hd
      | (rw [e3] at hd; exact hd)
  have h4 := Kd.C_take (m := b.length) h3 (by simp)
  have e4 : (b ++ d).take b.length = b := List.take_left
  rw [e4] at h4
  exact h4

theorem part_mid {w : World} {A : Option Addr} {c : Nat} {a b d L : List Int} (h : a ++ b ++ d = L) (hC : (Kd.int .u8).C w A L.length L) (hc : L.length ≤ c) :
    (Kd.int .u8).C w (if c = a.length then A else A.map (·.add a.length)) b.length b ∧ b.length ≤ c - a.length := by
  subst h
  refine ⟨mid_C hC hc, ?_⟩
  simp only [List.length_append] at hc
  omega
theorem slice_fits {a b d L : List Int} {c : Nat} (h : a ++ b ++ d = L) (hc : L.length ≤ c) : a.length + b.length ≤ c := by
  rw [← h] at hc
  simp only [List.length_append] at hc
  omega
set_option maxHeartbeats 8000000 in
set_option maxRecDepth 20000 in
theorem ShaParts_core (Ab : Option Addr) (cb : Nat) (lb : List Int) (Aa : Option Addr) (ca : Nat) (la : List Int) (Ad : Option Addr) (cd : Nat) (ld : List Int) (w : World)
    (hCb : (Kd.int .u8).C w Ab lb.length lb) (hcb : lb.length ≤ cb) (hCa : (Kd.int .u8).C w Aa la.length la) (hCd : (Kd.int .u8).C w Ad ld.length ld) :
    Calls Try.prog 8 #[.slice Ab lb.length cb, .slice Aa la.length ca, .slice Ad ld.length cd] w fun e w' => e = .returned (.bool true) ∧ Below w.heap.size w w' := by
  have HCb := Aside0.mk hCb
  have HCBP := Aside0.mk hcb
  have HCa := Aside0.mk hCa
  have HCd := Aside0.mk hCd
  clear hCb hcb hCa hCd
  by_cases hbig : 5000 < lb.length ∨ 5000 < la.length ∨ 5000 < ld.length
  · have h3 : (5000 < lb.length) ∨ (¬ 5000 < lb.length ∧ 5000 < la.length) ∨ (¬ 5000 < lb.length ∧ ¬ 5000 < la.length ∧ 5000 < ld.length) := by omega
    clear hbig
    rcases h3 with h1 | ⟨h1, h2⟩ | ⟨h1, h2, h3⟩
    all_goals (
      go_enter Try.func8, Try.ntmps8
      go_wp2_with (first
        | (go_at_call 17; (with_reducible refine (alive_any _).mono ?_); rintro e w1 ⟨rfl, hb⟩; have HB1 := Aside0.mk hb; clear hb))
      go_ret
      exact ⟨rfl, HB1.out⟩)
  · have h1 : ¬ 5000 < lb.length := by omega
    have h2 : ¬ 5000 < la.length := by omega
    have h3 : ¬ 5000 < ld.length := by omega
    clear hbig
    have HSZA := Aside0.mk (size23a (sumF lb) (sumF_len lb))
    have HONE := Aside0.mk (ints_one (sumF lb))
    have HLB := Aside0.mk (show lb.length ≤ 140737488351232 by omega)
    go_enter Try.func8, Try.ntmps8
    go_wp2_with (first
      | (go_at_call 17; (with_reducible refine (alive_any _).mono ?_); rintro e w1 ⟨rfl, hb⟩; have HB1 := Aside0.mk hb; clear hb)
      | (go_at_call 19; (with_reducible refine (sum_any Ab cb lb _ (Kd.C_below HCb.out HB1.out) HCBP.out HLB.out).mono ?_); rintro e w2 ⟨rfl, hb⟩; have HB2 := Aside0.mk (below_step HB1.out hb); clear hb)
      | ((with_reducible refine arm_store_new (ty := 23) (c' := ((sumF lb).map (Value.int .u8)).toArray) ?_ ?_ HSZA.out ?_ HONE.out ?_); rfl; rfl; (simp [sumF_len]); obtain ⟨g7, hg7⟩ : ∃ g, g = w2.heap.size := ⟨_, rfl⟩; have HT7 := Aside0.mk (show (w2.alloc (.cells (((sumF lb).map (Value.int .u8)).toArray) 23)).heap[g7]? = some (.cells (((sumF lb).map (Value.int .u8)).toArray) 23 (0, 0)) by rw [hg7]; exact heap_alloc_new w2 _); have HB3 := Aside0.mk (below_alloc HB2.out (.cells (((sumF lb).map (Value.int .u8)).toArray) 23)); rw [← hg7]; clear hg7; generalize w2.alloc (.cells (((sumF lb).map (Value.int .u8)).toArray) 23) = W3 at *)
      | (at_builtin; refine app_row (w0 := W3) (base := W3.heap.size) rfl (.tmp 28) (.tmp 29) rfl _ [] la Aa la.length ca rfl rfl (R_empty _ _ _ _ (Nat.le_refl _)) (Kd.C_below HCa.out (below_alloc HB3.out _)) (below_alloc (Below.refl _ _) _) (below_alloc (Below.refl _ _) _).size ?c1 ?_; (case c1 => simp; omega); intro v1 w4 ho hb hg; rw [List.nil_append] at ho; have HO4 := Aside0.mk ho; have HB4 := Aside0.mk hb; clear ho hb hg)
      | (at_builtin; refine app_row (w0 := W3) (base := W3.heap.size) rfl (.tmp 30) (.tmp 31) rfl _ la lb Ab lb.length cb rfl rfl HO4.out (Kd.C_below HCb.out (below_step HB3.out HB4.out)) HB4.out HB4.out.size ?c1 ?_; (case c1 => omega); intro v2 w5 ho hb hg; have HO5 := Aside0.mk ho; have HB5 := Aside0.mk hb; clear ho hb hg)
      | (at_builtin; refine app_row (w0 := W3) (base := W3.heap.size) rfl (.tmp 32) (.tmp 33) rfl _ (la ++ lb) ld Ad ld.length cd rfl rfl HO5.out (Kd.C_below HCd.out (below_step HB3.out HB5.out)) HB5.out HB5.out.size ?c1 ?_; (case c1 => simp; omega); intro v3 w6 ho hb hg; have HB6 := Aside0.mk hb; obtain ⟨LA, hLA⟩ : ∃ LA, la ++ lb ++ ld = LA := ⟨_, rfl⟩; rw [hLA] at ho; have HLA := Aside0.mk hLA; obtain ⟨AA, cA, hv3, hcA, hCA⟩ := Kd.R_reads ho; subst hv3; have HCA := Aside0.mk hCA; have HCAP := Aside0.mk hcA; have hcs := Kd.C_string (P := Try.prog) (w := w6) (src := 32) (dst := 9) (e := 5) (c := cA) (A := AA) Try.underlying32 Try.underlying5 Try.underlying9 hCA; clear ho hb hg hCA hcA hLA)
      | ((with_reducible refine arm_slicem (A := AA) (n := LA.length) (c := cA) (i := la.length) (j := la.length + lb.length) (k := .i64) (k' := .i64) ?_ ?_ ?_ (Nat.le_add_right _ _) (slice_fits HLA.out HCAP.out) ?_); rfl; rfl; rfl; rw [Nat.add_sub_cancel_left]; have HMID := Aside0.mk (part_mid HLA.out HCA.out HCAP.out); generalize (if cA = la.length then AA else AA.map (·.add la.length)) = AM at *; generalize cA - la.length = cM at *))
    have hz := fun W => (eq32 W (sumF lb) (sumF lb) (sumF_len lb) (sumF_len lb)).trans (by rw [decide_eq_true rfl])
    obtain ⟨WK, hWK⟩ : ∃ WK, WK = w6.drew := ⟨_, rfl⟩
    have HWK := Aside0.mk hWK
    have HSX := Aside0.mk (show Below WK.heap.size WK w6.drew by rw [hWK]; exact Below.refl _ _)
    have HCM := Aside0.mk (show (Kd.int .u8).C WK AM lb.length lb by rw [hWK]; exact Kd.C_below HMID.out.1 (below_drew1 (Below.refl _ _)))
    have HCMP := Aside0.mk HMID.out.2
    have HCA := Aside0.mk (show (Kd.int .u8).C WK AA LA.length LA by rw [hWK]; exact Kd.C_below HCA.out (below_drew1 (Below.refl _ _)))
    have HB6d := Aside0.mk (show Below W3.heap.size W3 WK by rw [hWK]; exact below_drew1 HB6.out)
    have HBK := Aside0.mk (below_step HB3.out HB6d.out)
    have HT7 := Aside0.mk ((HB6d.out.block g7 (blk_lt HT7.out)).trans HT7.out)
    have HLT7 := Aside0.mk (blk_lt HT7.out)
    have HSZL := Aside0.mk (sz23 (sumF lb) (sumF_len lb))
    clear hcs hWK
    refine wp_region_noPanic ?_
    refine wp_region_held_drew (S := (fun W => Below WK.heap.size WK W)) (by kernel_rfl) ?_ (fun hHeld => ?_)
    · exact HSX.out
    refine wpAnyH_take (i := 0) (oi := { dst := some 46, op := Go.Op.move (Go.Operand.tmp 10), type := 32, pos := "law.go:114", after := #[], guard := none }) (v := ?_) rfl (by kernel_rfl) (by kernel_rfl) (by kernel_rfl) (fun _ _ _ h => h) (Or.inl ⟨by rfl, ?_⟩) hHeld ?_
    rotate_left
    · intro w hSw; go_simp; with_reducible rfl
    try simp only [Act.put, List.setIfInBounds_toArray, List.set_cons_zero, List.set_cons_succ]
    refine wpAnyH_take (i := 2) (oi := { dst := some 48, op := Go.Op.load 23 (Go.Operand.tmp 7), type := 23, pos := "law.go:114", after := #[], guard := none }) (v := _) rfl (by kernel_rfl) (by kernel_rfl) (by kernel_rfl) (fun _ _ _ h => h) (yieldsIf_load_mid (by rfl) 23 (.tmp 7) rfl g7 0 rfl ((sumF lb).map (Value.int .u8)) _ (fun W h => range_cs ((h.block _ HLT7.out).trans HT7.out)) Try.underlying23 rfl HSZL.out) hHeld ?_
    try simp only [Act.put, List.setIfInBounds_toArray, List.set_cons_zero, List.set_cons_succ]
    refine wpAnyH_ready (rs := [1]) (by kernel_rfl) (by simp) ?_
    refine AllReadyH.cons (o := { dst := some 47, op := Go.Op.call { callee := Go.Callee.value (Go.Operand.func 19), args := #[Go.Operand.tmp 46], argTypes := #[32] }, type := 23, pos := "law.go:114", after := #[{ on := 0, ground := Go.Ground.data }], guard := none }) rfl (fun K hK => ?_) AllReadyH.nil
    refine step_call1 (f := 19) (x := .tmp 46) (v := .slice AM lb.length cM) (by rfl) rfl rfl enter19 (sum_w AM cM lb _ (Kd.C_below HCM.out HSX.out) HCMP.out HLB.out) ?_
    rintro u1 w1 ⟨rfl, hb⟩
    have HSX := Aside0.mk (below_step HSX.out hb)
    clear hb
    refine hK.out _ _ (HSX.out) (fun hHeld => ?_)
    clear hK K
    try simp only [Act.put, List.setIfInBounds_toArray, List.set_cons_zero, List.set_cons_succ]
    refine wpAnyH_take (i := 3) (oi := { dst := some 49, op := Go.Op.binOp Go.BinOp.eql 23 (Go.Operand.tmp 47) (Go.Operand.tmp 48) 23, type := 4, pos := "law.go:114", after := #[{ on := 1, ground := Go.Ground.data }, { on := 2, ground := Go.Ground.data }], guard := none }) (v := _) rfl (by kernel_rfl) (by kernel_rfl) (by kernel_rfl) (fun _ _ _ h => h) ((show YieldsIf _ _ _ _ (.bool true) _ from Or.inl ⟨by rfl, fun w hSw => by have hc := hz w; go_simp⟩)) hHeld ?_
    try simp only [Act.put, List.setIfInBounds_toArray, List.set_cons_zero, List.set_cons_succ]
    refine wpAnyH_take (i := 4) (oi := { dst := some 50, op := Go.Op.move (Go.Operand.tmp 49), type := 4, pos := "law.go:114", after := #[{ on := 3, ground := Go.Ground.data }, { on := 1, ground := Go.Ground.chain }], guard := none }) (v := ?_) rfl (by kernel_rfl) (by kernel_rfl) (by kernel_rfl) (fun _ _ _ h => h) (Or.inl ⟨by rfl, ?_⟩) hHeld ?_
    rotate_left
    · intro w hSw; go_simp; with_reducible rfl
    try simp only [Act.put, List.setIfInBounds_toArray, List.set_cons_zero, List.set_cons_succ]
    refine wpAnyH_take (i := 5) (oi := { dst := some 51, op := Go.Op.move (Go.Operand.tmp 0), type := 32, pos := "law.go:114", after := #[{ on := 4, ground := Go.Ground.guard }], guard := some (4, true) }) (v := ?_) rfl (by kernel_rfl) (by kernel_rfl) (by kernel_rfl) (fun _ _ _ h => h) (Or.inl ⟨by rfl, ?_⟩) hHeld ?_
    rotate_left
    · intro w hSw; go_simp; with_reducible rfl
    try simp only [Act.put, List.setIfInBounds_toArray, List.set_cons_zero, List.set_cons_succ]
    refine wpAnyH_take (i := 7) (oi := { dst := some 53, op := Go.Op.load 23 (Go.Operand.tmp 7), type := 23, pos := "law.go:114", after := #[{ on := 4, ground := Go.Ground.guard }], guard := some (4, true) }) (v := _) rfl (by kernel_rfl) (by kernel_rfl) (by kernel_rfl) (fun _ _ _ h => h) (yieldsIf_load_mid (by rfl) 23 (.tmp 7) rfl g7 0 rfl ((sumF lb).map (Value.int .u8)) _ (fun W h => range_cs ((h.block _ HLT7.out).trans HT7.out)) Try.underlying23 rfl HSZL.out) hHeld ?_
    try simp only [Act.put, List.setIfInBounds_toArray, List.set_cons_zero, List.set_cons_succ]
    refine wpAnyH_ready (rs := [6]) (by kernel_rfl) (by simp) ?_
    refine AllReadyH.cons (o := { dst := some 52, op := Go.Op.call { callee := Go.Callee.value (Go.Operand.func 19), args := #[Go.Operand.tmp 51], argTypes := #[32] }, type := 23, pos := "law.go:114", after := #[{ on := 5, ground := Go.Ground.data }, { on := 4, ground := Go.Ground.chain }, { on := 4, ground := Go.Ground.guard }], guard := some (4, true) }) rfl (fun K hK => ?_) AllReadyH.nil
    refine step_call1 (f := 19) (x := .tmp 51) (v := .slice Ab lb.length cb) (by rfl) rfl rfl enter19 (sum_w Ab cb lb _ (Kd.C_below HCb.out (below_step HBK.out HSX.out)) HCBP.out HLB.out) ?_
    rintro u1 w1 ⟨rfl, hb⟩
    have HSX := Aside0.mk (below_step HSX.out hb)
    clear hb
    refine hK.out _ _ (HSX.out) (fun hHeld => ?_)
    clear hK K
    try simp only [Act.put, List.setIfInBounds_toArray, List.set_cons_zero, List.set_cons_succ]
    refine wpAnyH_take (i := 8) (oi := { dst := some 54, op := Go.Op.binOp Go.BinOp.eql 23 (Go.Operand.tmp 52) (Go.Operand.tmp 53) 23, type := 4, pos := "law.go:114", after := #[{ on := 6, ground := Go.Ground.data }, { on := 7, ground := Go.Ground.data }, { on := 4, ground := Go.Ground.guard }], guard := some (4, true) }) (v := _) rfl (by kernel_rfl) (by kernel_rfl) (by kernel_rfl) (fun _ _ _ h => h) ((show YieldsIf _ _ _ _ (.bool true) _ from Or.inl ⟨by rfl, fun w hSw => by have hc := hz w; go_simp⟩)) hHeld ?_
    try simp only [Act.put, List.setIfInBounds_toArray, List.set_cons_zero, List.set_cons_succ]
    refine wpAnyH_take (i := 9) (oi := { dst := some 55, op := Go.Op.pick (Go.Operand.tmp 50) (Go.Operand.tmp 54) (Go.Operand.const (Go.Value.bool false)), type := 4, pos := "law.go:114", after := #[{ on := 4, ground := Go.Ground.data }, { on := 8, ground := Go.Ground.data }], guard := none }) (v := ?_) rfl (by kernel_rfl) (by kernel_rfl) (by kernel_rfl) (fun _ _ _ h => h) (Or.inl ⟨by rfl, ?_⟩) hHeld ?_
    rotate_left
    · intro w hSw; go_simp; with_reducible rfl
    try simp only [Act.put, List.setIfInBounds_toArray, List.set_cons_zero, List.set_cons_succ]
    refine wpAnyH_take (i := 10) (oi := { dst := some 56, op := Go.Op.move (Go.Operand.tmp 55), type := 4, pos := "law.go:114", after := #[{ on := 9, ground := Go.Ground.data }, { on := 6, ground := Go.Ground.chain }], guard := none }) (v := ?_) rfl (by kernel_rfl) (by kernel_rfl) (by kernel_rfl) (fun _ _ _ h => h) (Or.inl ⟨by rfl, ?_⟩) hHeld ?_
    rotate_left
    · intro w hSw; go_simp; with_reducible rfl
    try simp only [Act.put, List.setIfInBounds_toArray, List.set_cons_zero, List.set_cons_succ]
    refine wpAnyH_take (i := 11) (oi := { dst := some 57, op := Go.Op.move (Go.Operand.tmp 8), type := 32, pos := "law.go:114", after := #[{ on := 10, ground := Go.Ground.guard }], guard := some (10, true) }) (v := ?_) rfl (by kernel_rfl) (by kernel_rfl) (by kernel_rfl) (fun _ _ _ h => h) (Or.inl ⟨by rfl, ?_⟩) hHeld ?_
    rotate_left
    · intro w hSw; go_simp; with_reducible rfl
    try simp only [Act.put, List.setIfInBounds_toArray, List.set_cons_zero, List.set_cons_succ]
    refine wpAnyH_take (i := 12) (oi := { dst := some 58, op := Go.Op.convert 32 9 (Go.Operand.tmp 57), type := 9, pos := "law.go:114", after := #[{ on := 11, ground := Go.Ground.data }, { on := 10, ground := Go.Ground.guard }], guard := some (10, true) }) (v := _) rfl (by kernel_rfl) (by kernel_rfl) (by kernel_rfl) (fun _ _ _ h => h) ((show YieldsIf _ _ _ _ (.string (strOfNums LA)) _ from Or.inl ⟨by rfl, fun w hSw => by have hc := Kd.C_string (P := Try.prog) (w := w) (src := 32) (dst := 9) (e := 5) (c := cA) (A := AA) Try.underlying32 Try.underlying5 Try.underlying9 (Kd.C_below HCA.out hSw); go_simp⟩)) hHeld ?_
    try simp only [Act.put, List.setIfInBounds_toArray, List.set_cons_zero, List.set_cons_succ]
    refine wpAnyH_take (i := 13) (oi := { dst := some 59, op := Go.Op.move (Go.Operand.tmp 9), type := 9, pos := "law.go:114", after := #[{ on := 10, ground := Go.Ground.guard }], guard := some (10, true) }) (v := ?_) rfl (by kernel_rfl) (by kernel_rfl) (by kernel_rfl) (fun _ _ _ h => h) (Or.inl ⟨by rfl, ?_⟩) hHeld ?_
    rotate_left
    · intro w hSw; go_simp; with_reducible rfl
    try simp only [Act.put, List.setIfInBounds_toArray, List.set_cons_zero, List.set_cons_succ]
    refine wpAnyH_take (i := 14) (oi := { dst := some 60, op := Go.Op.binOp Go.BinOp.eql 9 (Go.Operand.tmp 58) (Go.Operand.tmp 59) 9, type := 4, pos := "law.go:114", after := #[{ on := 12, ground := Go.Ground.data }, { on := 13, ground := Go.Ground.data }, { on := 10, ground := Go.Ground.guard }], guard := some (10, true) }) (v := _) rfl (by kernel_rfl) (by kernel_rfl) (by kernel_rfl) (fun _ _ _ h => h) ((show YieldsIf _ _ _ _ (.bool true) _ from Or.inl ⟨by rfl, fun w hSw => by go_simp⟩)) hHeld ?_
    try simp only [Act.put, List.setIfInBounds_toArray, List.set_cons_zero, List.set_cons_succ]
    refine wpAnyH_take (i := 15) (oi := { dst := some 61, op := Go.Op.pick (Go.Operand.tmp 56) (Go.Operand.tmp 60) (Go.Operand.const (Go.Value.bool false)), type := 4, pos := "law.go:114", after := #[{ on := 10, ground := Go.Ground.data }, { on := 14, ground := Go.Ground.data }], guard := none }) (v := ?_) rfl (by kernel_rfl) (by kernel_rfl) (by kernel_rfl) (fun _ _ _ h => h) (Or.inl ⟨by rfl, ?_⟩) hHeld ?_
    rotate_left
    · intro w hSw; go_simp; with_reducible rfl
    try simp only [Act.put, List.setIfInBounds_toArray, List.set_cons_zero, List.set_cons_succ]
    refine wpAnyH_take (i := 16) (oi := { dst := some 62, op := Go.Op.move (Go.Operand.tmp 61), type := 4, pos := "law.go:114", after := #[{ on := 15, ground := Go.Ground.data }, { on := 10, ground := Go.Ground.chain }], guard := none }) (v := ?_) rfl (by kernel_rfl) (by kernel_rfl) (by kernel_rfl) (fun _ _ _ h => h) (Or.inl ⟨by rfl, ?_⟩) hHeld ?_
    rotate_left
    · intro w hSw; go_simp; with_reducible rfl
    try simp only [Act.put, List.setIfInBounds_toArray, List.set_cons_zero, List.set_cons_succ]
    refine wpAnyH_take (i := 17) (oi := { dst := some 63, op := Go.Op.move (Go.Operand.tmp 10), type := 32, pos := "law.go:114", after := #[{ on := 16, ground := Go.Ground.guard }], guard := some (16, true) }) (v := ?_) rfl (by kernel_rfl) (by kernel_rfl) (by kernel_rfl) (fun _ _ _ h => h) (Or.inl ⟨by rfl, ?_⟩) hHeld ?_
    rotate_left
    · intro w hSw; go_simp; with_reducible rfl
    try simp only [Act.put, List.setIfInBounds_toArray, List.set_cons_zero, List.set_cons_succ]
    refine wpAnyH_take (i := 20) (oi := { dst := some 66, op := Go.Op.load 23 (Go.Operand.tmp 7), type := 23, pos := "law.go:114", after := #[{ on := 16, ground := Go.Ground.guard }], guard := some (16, true) }) (v := _) rfl (by kernel_rfl) (by kernel_rfl) (by kernel_rfl) (fun _ _ _ h => h) (yieldsIf_load_mid (by rfl) 23 (.tmp 7) rfl g7 0 rfl ((sumF lb).map (Value.int .u8)) _ (fun W h => range_cs ((h.block _ HLT7.out).trans HT7.out)) Try.underlying23 rfl HSZL.out) hHeld ?_
    try simp only [Act.put, List.setIfInBounds_toArray, List.set_cons_zero, List.set_cons_succ]
    refine wpAnyH_ready (rs := [18]) (by kernel_rfl) (by simp) ?_
    refine AllReadyH.cons (o := { dst := some 64, op := Go.Op.call { callee := Go.Callee.value (Go.Operand.func 22), args := #[Go.Operand.tmp 63], argTypes := #[32] }, type := 45, pos := "law.go:114", after := #[{ on := 17, ground := Go.Ground.data }, { on := 16, ground := Go.Ground.chain }, { on := 16, ground := Go.Ground.guard }], guard := some (16, true) }) rfl (fun K hK => ?_) AllReadyH.nil
    refine step_call1 (f := 22) (x := .tmp 63) (v := .slice AM lb.length cM) (by rfl) rfl rfl enter22 (of_v AM cM lb _ (Kd.C_below HCM.out HSX.out) HLB.out) ?_
    rintro u1 w1 ⟨gn, An, cn, rfl, hn, hlo, hb⟩
    have HNM := Aside0.mk hn
    have HLO := Aside0.mk (show WK.heap.size ≤ gn from Nat.le_trans HSX.out.size hlo)
    have HSX := Aside0.mk (below_step HSX.out hb)
    clear hb hn hlo
    refine hK.out _ _ (HSX.out) (fun hHeld => ?_)
    clear hK K
    try simp only [Act.put, List.setIfInBounds_toArray, List.set_cons_zero, List.set_cons_succ]
    refine wpAnyH_ready (rs := [19]) (by kernel_rfl) (by simp) ?_
    refine AllReadyH.cons (o := { dst := some 65, op := Go.Op.call { callee := Go.Callee.value (Go.Operand.func 23), args := #[Go.Operand.tmp 64], argTypes := #[45] }, type := 23, pos := "law.go:114", after := #[{ on := 18, ground := Go.Ground.data }, { on := 18, ground := Go.Ground.chain }, { on := 16, ground := Go.Ground.guard }], guard := some (16, true) }) rfl (fun K hK => ?_) AllReadyH.nil
    refine step_call1 (f := 23) (x := .tmp 64) (v := .pointer (some ⟨gn, 0, none⟩)) (by rfl) rfl rfl enter23 (id_v _ gn An cn lb false HNM.out HLB.out) ?_
    rintro u1 w1 ⟨rfl, hq⟩
    have HSX := Aside0.mk (HSX.out.grown hq.2 HSX.out.size (fun k hk => by injection hk with hk; have := HLO.out; omega))
    clear hq
    refine hK.out _ _ (HSX.out) (fun hHeld => ?_)
    clear hK K
    try simp only [Act.put, List.setIfInBounds_toArray, List.set_cons_zero, List.set_cons_succ]
    refine wpAnyH_take (i := 21) (oi := { dst := some 67, op := Go.Op.binOp Go.BinOp.eql 23 (Go.Operand.tmp 65) (Go.Operand.tmp 66) 23, type := 4, pos := "law.go:114", after := #[{ on := 19, ground := Go.Ground.data }, { on := 20, ground := Go.Ground.data }, { on := 16, ground := Go.Ground.guard }], guard := some (16, true) }) (v := _) rfl (by kernel_rfl) (by kernel_rfl) (by kernel_rfl) (fun _ _ _ h => h) ((show YieldsIf _ _ _ _ (.bool true) _ from Or.inl ⟨by rfl, fun w hSw => by have hc := hz w; go_simp⟩)) hHeld ?_
    try simp only [Act.put, List.setIfInBounds_toArray, List.set_cons_zero, List.set_cons_succ]
    refine wpAnyH_take (i := 22) (oi := { dst := some 68, op := Go.Op.pick (Go.Operand.tmp 62) (Go.Operand.tmp 67) (Go.Operand.const (Go.Value.bool false)), type := 4, pos := "law.go:114", after := #[{ on := 16, ground := Go.Ground.data }, { on := 21, ground := Go.Ground.data }], guard := none }) (v := ?_) rfl (by kernel_rfl) (by kernel_rfl) (by kernel_rfl) (fun _ _ _ h => h) (Or.inl ⟨by rfl, ?_⟩) hHeld ?_
    rotate_left
    · intro w hSw; go_simp; with_reducible rfl
    try simp only [Act.put, List.setIfInBounds_toArray, List.set_cons_zero, List.set_cons_succ]
    refine wpAnyH_take (i := 23) (oi := { dst := some 6, op := Go.Op.assign (Go.Operand.tmp 68), type := 4, pos := "law.go:114", after := #[{ on := 22, ground := Go.Ground.data }, { on := 19, ground := Go.Ground.chain }, { on := 0, ground := Go.Ground.phase }, { on := 1, ground := Go.Ground.phase }, { on := 2, ground := Go.Ground.phase }, { on := 3, ground := Go.Ground.phase }, { on := 4, ground := Go.Ground.phase }, { on := 5, ground := Go.Ground.phase }, { on := 6, ground := Go.Ground.phase }, { on := 7, ground := Go.Ground.phase }, { on := 8, ground := Go.Ground.phase }, { on := 9, ground := Go.Ground.phase }, { on := 10, ground := Go.Ground.phase }, { on := 11, ground := Go.Ground.phase }, { on := 12, ground := Go.Ground.phase }, { on := 13, ground := Go.Ground.phase }, { on := 14, ground := Go.Ground.phase }, { on := 15, ground := Go.Ground.phase }, { on := 16, ground := Go.Ground.phase }, { on := 17, ground := Go.Ground.phase }, { on := 18, ground := Go.Ground.phase }, { on := 19, ground := Go.Ground.phase }, { on := 20, ground := Go.Ground.phase }, { on := 21, ground := Go.Ground.phase }, { on := 22, ground := Go.Ground.phase }], guard := none }) (v := ?_) rfl (by kernel_rfl) (by kernel_rfl) (by kernel_rfl) (fun _ _ _ h => h) (Or.inl ⟨by rfl, ?_⟩) hHeld ?_
    rotate_left
    · intro w hSw; go_simp; with_reducible rfl
    try simp only [Act.put, List.setIfInBounds_toArray, List.set_cons_zero, List.set_cons_succ]
    refine wpAnyH_done (by kernel_rfl) ?_ _
    refine NoPanic.normal ?_
    go_wp2
    go_ret
    exact ⟨rfl, below_step HBK.out HSX.out⟩
theorem ShaParts_walk (A0 : Option Addr) (c0 : Nat) (l0 : List Int) (A1 : Option Addr) (c1 : Nat) (l1 : List Int) (A2 : Option Addr) (c2 : Nat) (l2 : List Int) (w : World)
    (hr0 : Kd.C (Kd.int .u8) w A0 l0.length l0) (hc0 : l0.length ≤ c0) (hw0 : ∀ x ∈ l0, (Lit.int .u8 x).wf = true) (hb0 : l0.length * 1 ≤ 140737488351232)
    (hr1 : Kd.C (Kd.int .u8) w A1 l1.length l1) (hc1 : l1.length ≤ c1) (hw1 : ∀ x ∈ l1, (Lit.int .u8 x).wf = true) (hb1 : l1.length * 1 ≤ 140737488351232)
    (hr2 : Kd.C (Kd.int .u8) w A2 l2.length l2) (hc2 : l2.length ≤ c2) (hw2 : ∀ x ∈ l2, (Lit.int .u8 x).wf = true) (hb2 : l2.length * 1 ≤ 140737488351232) :
    Calls Try.prog 8 #[.slice A0 l0.length c0, .slice A1 l1.length c1, .slice A2 l2.length c2] w fun e w' => e = .returned (.bool true) ∧ Below w.heap.size w w' :=
  ShaParts_core A0 c0 l0 A1 c1 l1 A2 c2 l2 w hr0 hc0 hr1 hr2
end Go.Proofs.Ytcpcellocnojcaa

import Derived.Test.YtcpcellocnojcaaBackN
namespace Go.Proofs.Ytcpcellocnojcaa
open Go Go.RowKit Go.Proofs.YtcpcellocnojcaaW.PrintWords
set_option linter.unusedVariables false
set_option linter.unusedSimpArgs false

/-- What a call of Parse gives. -/
theorem parse_at (s : ByteArray) (l : List Int) (hl : bytesOf s = l) (w : World) :
    Calls Try.prog 13 #[.string s] w fun e w' => e = .returned (.tuple #[.agg (cellsN (parseB l)), .bool (good l)]) ∧ Below w.heap.size w w' := by
  subst hl; exact parse_any s w
section
variable {ops : Array Oper} {o : Oper} {a : Act} {Q : Exit → Act → World → Prop} {K : Act → World → Prop} {W : World} {E : Prop}
theorem step_one (hw : Region.wanted o (yielded ops a.tmps) = true) (x : Operand)
    (ho : o.op = .buildSlice 32 1 #[(0, x)]) (u : Int) (hx : a.eval x = .int .u8 u)
    (h : K (a.put o.dst (.slice (some ⟨W.heap.size, 0, none⟩) 1 1)) (W.alloc (.cells #[.int .u8 u] 5))) :
    if Region.wanted o (yielded ops a.tmps) = true then Oper.wp Try.prog o a W K Q else E := by
  rw [if_pos hw]
  obtain ⟨i0, hi, hzz⟩ := Option.map_eq_some_iff.1 info5
  simp only [Prod.mk.injEq] at hzz
  obtain ⟨hz0, hz1, hz2⟩ := hzz
  refine wp_buildSlice 32 5 1 _ ho _ i0 (.int .u8 0) Try.underlying32 hi hz0 (by rw [hz1]; decide) (by rw [hz1]; decide) ?_ h
  rw [hz1, show Array.range (1 * 1) = #[0] from by decide +kernel]
  simp [hx, Instr.fill, Value.cells]
theorem step_conv (hw : Region.wanted o (yielded ops a.tmps) = true) (x : Operand) (ho : o.op = .convert 32 9 x) (A : Option Addr) (n c : Nat) (l : List Int) (hx : a.eval x = .slice A n c)
    (hC : (Kd.int .u8).C W A n l) (h : K (a.put o.dst (.string (strOfNums l))) W) :
    if Region.wanted o (yielded ops a.tmps) = true then Oper.wp Try.prog o a W K Q else E := by
  rw [if_pos hw]
  unfold Oper.wp execOp
  simp only [ho, hx, Sem.run_bind, Sem.run_pure, Result.andThen_ok, Kd.C_string (P := Try.prog) (src := 32) (dst := 9) (c := c) Try.underlying32 Try.underlying5 Try.underlying9 hC]
  exact h
end
theorem enter13 (vs : Array Value) (W : World) : (callFunc 13 vs).run Try.prog W = .ok (.enter 13 vs) W := enter_of Try.func13 (by rfl) (by decide +kernel) vs W

set_option maxHeartbeats 2000000 in
set_option maxRecDepth 20000 in
theorem ShaBack_any (c1 : Array Value) (b : List Int) (at_ c : Int) (w : World) (ha : Arr 32 c1 b) (hc : 0 ≤ c ∧ c < 256) :
    Calls Try.prog 4 #[.agg c1, .int .i64 at_, .int .u8 c] w fun e w' => e = .returned (.bool true) ∧ Below w.heap.size w w' := by
  have HA := Aside0.mk ha
  have h23 := Try.underlying23
  have HR1 := Aside0.mk (range_cs (heap_alloc_new w (.cells c1 23)))
  have HS1 := Aside0.mk (show (Try.prog.info? 23).map (·.size) = some c1.size by rw [size23, HA.out.size])
  have HT1 := Aside0.mk (show (Try.prog.info? 23).map (·.size) = some c1.toList.length by rw [size23, Array.length_toList, HA.out.size])
  have HO1 := Aside0.mk (show c1.all (·.oneCell') = true by rw [HA.out.eq]; exact ints_one b)
  have HZ1 := Aside0.mk (show (32 : Nat) = c1.size from HA.out.size.symm)
  have HW := Aside0.mk (below_alloc (Below.refl w.heap.size w) (.cells c1 23))
  have hHl : (hexL b).length = 64 := by rw [hexL_length, HA.out.len]
  have hHw := hexL_byte b HA.out.wf
  obtain ⟨s, hs⟩ : ∃ s, strOfNums (hexL b) = s := ⟨_, rfl⟩
  have hbs : bytesOf s = hexL b := by rw [← hs, bytes_strOf _ hHw]
  have hsz : s.size = 64 := by rw [← bytesOf_length, hbs, hHl]
  have HS := Aside0.mk hs
  have HP := Aside0.mk (fun W => by
    have h := parse_at s (hexL b) hbs W
    rw [(parse_hexL b HA.out.len HA.out.wf).1, (parse_hexL b HA.out.len HA.out.wf).2, show cellsN b = c1 from HA.out.eq.symm] at h
    exact h)
  have heq : ∀ W, (Op.equalIn 10000 23 (.agg c1) (.agg c1)).run Try.prog W = .ok true W := fun W => by
    have := eq32 W b b HA.out.len HA.out.len
    rw [← HA.out.eq] at this
    rw [this]
    congr 1
    simp
  have hm := mask64 at_ 63 (by decide) (by decide)
  obtain ⟨m, hmm⟩ : ∃ m, Go.bits .and .i64 at_ 63 = m := ⟨_, rfl⟩
  rw [hmm] at hm
  obtain ⟨i, rfl⟩ := Int.eq_ofNat_of_zero_le hm.1
  have hi : i < 64 := by omega
  have HBS := Aside0.mk hbs
  clear ha hHl hs hbs hHw hm
  go_enter Try.func4, Try.ntmps4
  go_wp2_with (first
    | (go_at_call 10; (refine (hexing_any _).mono ?_); rintro e w1 ⟨rfl, hb1⟩; have HB1 := Aside0.mk hb1; clear hb1)
    | ((with_reducible refine arm_load (ty := 23) (x := .tmp 3) (b := w.heap.size) (cs := c1) (d := some 18) ?_ ?_ ?_ h23 HS1.out ?_); rfl; rfl; exact range_below HB1.out (by simp) HR1.out)
    | (go_at_call 11; (refine (hex_any c1 b w1 HA.out).mono ?_); rintro e w2 ⟨rfl, hb1⟩; have HB2 := Aside0.mk (below_step HB1.out hb1); clear hb1; rw [HS.out])
    | (go_at_call 13; (refine (HP.out _).mono ?_); rintro e w3 ⟨rfl, hb1⟩; have HB3 := Aside0.mk (below_step HB2.out hb1); clear hb1)
    | ((with_reducible refine arm_store_new (ty := 23) (x := .tmp 8) (y := .tmp 23) (c' := c1) ?_ ?_ HS1.out ?_ HO1.out ?_); rfl; rfl; exact (Eq.trans (b := 32) rfl HZ1.out))
    | ((with_reducible refine arm_load (ty := 23) (x := .tmp 8) (b := w3.heap.size) (cs := c1) ?_ ?_ ?_ h23 HS1.out ?_); rfl; rfl; exact range_cs (heap_alloc_new w3 _))
    | ((with_reducible refine arm_load (ty := 23) (x := .tmp 3) (b := w.heap.size) (cs := c1) (d := some 34) ?_ ?_ ?_ h23 HS1.out ?_); rfl; rfl; exact range_below (below_alloc HB3.out _) (by simp) HR1.out))
  have HX := Aside0.mk (below_drew1 (below_alloc HB3.out (.cells c1 23)))
  obtain ⟨p1, hp1⟩ : ∃ p1, s.extract 0 i = p1 := ⟨_, rfl⟩
  obtain ⟨p3, hp3⟩ : ∃ p3, s.extract (i + 1) 64 = p3 := ⟨_, rfl⟩
  obtain ⟨p2, hp2⟩ : ∃ p2, strOfNums [c] = p2 := ⟨_, rfl⟩
  have HP2 := Aside0.mk hp2
  have hti : ((i : Int) + 1).toNat = i + 1 := by omega
  have ham : IntKind.i64.wrap ((i : Int) + 1) = (i : Int) + 1 := by rw [IntKind.wrap_i64]; omega
  have b1 : bytesOf p1 = (hexL b).take i := by rw [← hp1, bytes_extract, HBS.out]; simp
  have b2 : bytesOf p2 = [c] := by rw [← hp2, bytes_strOf _ (by simpa using hc)]
  have b3 : bytesOf p3 = (hexL b).drop (i + 1) := by
    rw [← hp3, bytes_extract, HBS.out]
    exact List.take_of_length_le (by rw [List.length_drop, hexL_length, HA.out.len]; omega)
  have z1 : p1.size = i := by rw [← bytesOf_length, b1, List.length_take, hexL_length, HA.out.len]; omega
  have z2 : p2.size = 1 := by rw [← bytesOf_length, b2]; rfl
  have z3 : p3.size = 63 - i := by rw [← bytesOf_length, b3, List.length_drop, hexL_length, HA.out.len]; omega
  have BT := Aside0.mk (show bytesOf (p1 ++ p2 ++ p3) = (hexL b).take i ++ [c] ++ (hexL b).drop (i + 1) by rw [bytes_append, bytes_append, b1, b2, b3])
  have B1 := Aside0.mk b1
  have z12 : (p1 ++ p2).size = i + 1 := by rw [ByteArray.size_append, z1, z2]
  clear b1 b2 b3
  refine wp_region_noPanic ?_
  refine wp_region_held_drew (S := (fun _ => True)) (by kernel_rfl) ?_ (fun hHeld => ?_)
  · exact trivial
  refine wpAnyH_take (i := 0) (oi := { dst := some 39, op := Go.Op.move (Go.Operand.tmp 7), type := 9, pos := "law.go:57", after := #[], guard := none }) (v := ?_) rfl (by kernel_rfl) (by kernel_rfl) (by kernel_rfl) (fun _ _ _ h => h) (Or.inl ⟨by rfl, ?_⟩) hHeld ?_
  rotate_left
  · intro w hSw; go_simp; with_reducible rfl
  try simp only [Act.put, List.setIfInBounds_toArray, List.set_cons_zero, List.set_cons_succ]
  refine wpAnyH_take (i := 1) (oi := { dst := some 40, op := Go.Op.move (Go.Operand.tmp 10), type := 3, pos := "law.go:57", after := #[], guard := none }) (v := ?_) rfl (by kernel_rfl) (by kernel_rfl) (by kernel_rfl) (fun _ _ _ h => h) (Or.inl ⟨by rfl, ?_⟩) hHeld ?_
  rotate_left
  · intro w hSw; go_simp; with_reducible rfl
  try simp only [Act.put, List.setIfInBounds_toArray, List.set_cons_zero, List.set_cons_succ]
  refine wpAnyH_take (i := 2) (oi := { dst := some 41, op := Go.Op.slice 9 (Go.Operand.tmp 39) none (some (Go.Operand.tmp 40)) none, type := 9, pos := "law.go:57", after := #[{ on := 0, ground := Go.Ground.data }, { on := 1, ground := Go.Ground.data }], guard := none }) (v := _) rfl (by kernel_rfl) (by kernel_rfl) (by kernel_rfl) (fun _ _ _ h => h) ((show YieldsIf _ _ _ _ (.string p1) _ from Or.inl ⟨by rfl, fun w hSw => by go_simp; intro h; exfalso; omega⟩)) hHeld ?_
  try simp only [Act.put, List.setIfInBounds_toArray, List.set_cons_zero, List.set_cons_succ]
  refine wpAnyH_take (i := 3) (oi := { dst := some 42, op := Go.Op.move (Go.Operand.tmp 2), type := 5, pos := "law.go:57", after := #[], guard := none }) (v := ?_) rfl (by kernel_rfl) (by kernel_rfl) (by kernel_rfl) (fun _ _ _ h => h) (Or.inl ⟨by rfl, ?_⟩) hHeld ?_
  rotate_left
  · intro w hSw; go_simp; with_reducible rfl
  try simp only [Act.put, List.setIfInBounds_toArray, List.set_cons_zero, List.set_cons_succ]
  refine wpAnyH_take (i := 7) (oi := { dst := some 46, op := Go.Op.move (Go.Operand.tmp 7), type := 9, pos := "law.go:57", after := #[], guard := none }) (v := ?_) rfl (by kernel_rfl) (by kernel_rfl) (by kernel_rfl) (fun _ _ _ h => h) (Or.inl ⟨by rfl, ?_⟩) hHeld ?_
  rotate_left
  · intro w hSw; go_simp; with_reducible rfl
  try simp only [Act.put, List.setIfInBounds_toArray, List.set_cons_zero, List.set_cons_succ]
  refine wpAnyH_take (i := 8) (oi := { dst := some 47, op := Go.Op.move (Go.Operand.tmp 10), type := 3, pos := "law.go:57", after := #[], guard := none }) (v := ?_) rfl (by kernel_rfl) (by kernel_rfl) (by kernel_rfl) (fun _ _ _ h => h) (Or.inl ⟨by rfl, ?_⟩) hHeld ?_
  rotate_left
  · intro w hSw; go_simp; with_reducible rfl
  try simp only [Act.put, List.setIfInBounds_toArray, List.set_cons_zero, List.set_cons_succ]
  refine wpAnyH_take (i := 9) (oi := { dst := some 48, op := Go.Op.binOp Go.BinOp.add 3 (Go.Operand.tmp 47) (Go.Operand.const (Go.Value.int Go.IntKind.i64 1)) 3, type := 3, pos := "law.go:57", after := #[{ on := 8, ground := Go.Ground.data }], guard := none }) (v := _) rfl (by kernel_rfl) (by kernel_rfl) (by kernel_rfl) (fun _ _ _ h => h) ((show YieldsIf _ _ _ _ (.int .i64 ((i : Int) + 1)) _ from Or.inl ⟨by rfl, fun w hSw => by go_simp; try simp only [ham]⟩)) hHeld ?_
  try simp only [Act.put, List.setIfInBounds_toArray, List.set_cons_zero, List.set_cons_succ]
  refine wpAnyH_take (i := 10) (oi := { dst := some 49, op := Go.Op.slice 9 (Go.Operand.tmp 46) (some (Go.Operand.tmp 48)) none none, type := 9, pos := "law.go:57", after := #[{ on := 7, ground := Go.Ground.data }, { on := 9, ground := Go.Ground.data }], guard := none }) (v := _) rfl (by kernel_rfl) (by kernel_rfl) (by kernel_rfl) (fun _ _ _ h => h) ((show YieldsIf _ _ _ _ (.string p3) _ from Or.inl ⟨by rfl, fun w hSw => by go_simp; intro h; exfalso; omega⟩)) hHeld ?_
  try simp only [Act.put, List.setIfInBounds_toArray, List.set_cons_zero, List.set_cons_succ]
  refine wpAnyH_ready (rs := [4]) (by kernel_rfl) (by simp) ?_
  refine AllReadyH.cons (o := { dst := some 43, op := Go.Op.buildSlice 32 1 #[(0, Go.Operand.tmp 42)], type := 32, pos := "law.go:57", after := #[{ on := 3, ground := Go.Ground.data }], guard := none }) rfl (fun K hK => ?_) AllReadyH.nil
  refine step_one (by rfl) (.tmp 42) rfl c rfl ?_
  have HC2 := Aside0.mk (show (Kd.int .u8).C _ (some ⟨(w3.alloc (.cells c1 23)).drew.heap.size, 0, none⟩) 1 [c] from C_new (w3.alloc (.cells c1 23)).drew #[.int .u8 c] 5 (0, 0) [c] (fun j hj => by match j, hj with | 0, _ => rfl) (by simp))
  have HX := Aside0.mk (below_alloc HX.out (.cells #[.int .u8 c] 5))
  refine hK.out _ _ (trivial) (fun hHeld => ?_)
  clear hK K
  try simp only [Act.put, List.setIfInBounds_toArray, List.set_cons_zero, List.set_cons_succ]
  refine wpAnyH_ready (rs := [5]) (by kernel_rfl) (by simp) ?_
  refine AllReadyH.cons (o := { dst := some 44, op := Go.Op.convert 32 9 (Go.Operand.tmp 43), type := 9, pos := "law.go:57", after := #[{ on := 4, ground := Go.Ground.data }], guard := none }) rfl (fun K hK => ?_) AllReadyH.nil
  refine step_conv (by rfl) (.tmp 43) rfl (some ⟨(w3.alloc (.cells c1 23)).drew.heap.size, 0, none⟩) 1 1 [c] rfl HC2.out ?_
  rw [HP2.out]
  refine hK.out _ _ (trivial) (fun hHeld => ?_)
  clear hK K
  try simp only [Act.put, List.setIfInBounds_toArray, List.set_cons_zero, List.set_cons_succ]
  refine wpAnyH_take (i := 6) (oi := { dst := some 45, op := Go.Op.binOp Go.BinOp.add 9 (Go.Operand.tmp 41) (Go.Operand.tmp 44) 9, type := 9, pos := "law.go:57", after := #[{ on := 2, ground := Go.Ground.data }, { on := 5, ground := Go.Ground.data }], guard := none }) (v := _) rfl (by kernel_rfl) (by kernel_rfl) (by kernel_rfl) (fun _ _ _ h => h) ((show YieldsIf _ _ _ _ (.string (p1 ++ p2)) _ from Or.inl ⟨by rfl, fun w hSw => by go_simp; omega⟩)) hHeld ?_
  try simp only [Act.put, List.setIfInBounds_toArray, List.set_cons_zero, List.set_cons_succ]
  refine wpAnyH_take (i := 11) (oi := { dst := some 50, op := Go.Op.binOp Go.BinOp.add 9 (Go.Operand.tmp 45) (Go.Operand.tmp 49) 9, type := 9, pos := "law.go:57", after := #[{ on := 6, ground := Go.Ground.data }, { on := 10, ground := Go.Ground.data }], guard := none }) (v := _) rfl (by kernel_rfl) (by kernel_rfl) (by kernel_rfl) (fun _ _ _ h => h) ((show YieldsIf _ _ _ _ (.string (p1 ++ p2 ++ p3)) _ from Or.inl ⟨by rfl, fun w hSw => by go_simp; omega⟩)) hHeld ?_
  try simp only [Act.put, List.setIfInBounds_toArray, List.set_cons_zero, List.set_cons_succ]
  refine wpAnyH_take (i := 12) (oi := { dst := some 11, op := Go.Op.assign (Go.Operand.tmp 50), type := 9, pos := "law.go:57", after := #[{ on := 11, ground := Go.Ground.data }, { on := 0, ground := Go.Ground.phase }, { on := 1, ground := Go.Ground.phase }, { on := 2, ground := Go.Ground.phase }, { on := 3, ground := Go.Ground.phase }, { on := 4, ground := Go.Ground.phase }, { on := 5, ground := Go.Ground.phase }, { on := 6, ground := Go.Ground.phase }, { on := 7, ground := Go.Ground.phase }, { on := 8, ground := Go.Ground.phase }, { on := 9, ground := Go.Ground.phase }, { on := 10, ground := Go.Ground.phase }, { on := 11, ground := Go.Ground.phase }], guard := none }) (v := ?_) rfl (by kernel_rfl) (by kernel_rfl) (by kernel_rfl) (fun _ _ _ h => h) (Or.inl ⟨by rfl, ?_⟩) hHeld ?_
  rotate_left
  · intro w hSw; go_simp; with_reducible rfl
  try simp only [Act.put, List.setIfInBounds_toArray, List.set_cons_zero, List.set_cons_succ]
  refine wpAnyH_done (by kernel_rfl) ?_ _
  refine NoPanic.normal ?_
  have HB4 := Aside0.mk (show Below (w.alloc (.cells c1 23)).heap.size (w.alloc (.cells c1 23)) ((w3.alloc (.cells c1 23)).drew.alloc (.cells #[.int .u8 c] 5)) from HX.out)
  generalize (w3.alloc (.cells c1 23)).drew.alloc (.cells #[.int .u8 c] 5) = W4 at *
  generalize (w3.alloc (.cells c1 23)).drew.heap.size = g4 at *
  have HGS := Aside0.mk (good_short ((hexL b).take i) (by rw [List.length_take, hexL_length, HA.out.len]; omega))
  have HQ := Aside0.mk (fun W => by
    have h := parse_at (s.extract 0 i) ((hexL b).take i) (by rw [hp1]; exact B1.out) W
    rw [HGS.out, parse_bad HGS.out] at h
    exact h)
  have HTL := Aside0.mk (turn_law b c i HA.out.len HA.out.wf hi)
  have HRT := Aside0.mk (fun W => parse_at (p1 ++ p2 ++ p3) _ BT.out W)
  have HLEN := Aside0.mk (parse_len ((hexL b).take i ++ [c] ++ (hexL b).drop (i + 1)))
  have HRNG := Aside0.mk (parse_range ((hexL b).take i ++ [c] ++ (hexL b).drop (i + 1)))
  have HSI := Aside0.mk (index_str s .i64 i (by omega) (by omega))
  have HT := Aside0.mk (strOf_bytes (p1 ++ p2 ++ p3))
  rw [BT.out] at HT
  obtain ⟨T, hT⟩ : ∃ T, (hexL b).take i ++ [c] ++ (hexL b).drop (i + 1) = T := ⟨_, rfl⟩
  rw [hT] at HTL HRT HLEN HRNG HT
  obtain ⟨t, ht⟩ : ∃ t, p1 ++ p2 ++ p3 = t := ⟨_, rfl⟩
  rw [ht] at HRT HT BT
  rw [ht]
  clear hT hp1 hp2 hp3 HP2 z1 z2 z3 z12 HC2 ht
  obtain ⟨q, hq⟩ : ∃ q, cellsN (parseB T) = q := ⟨_, rfl⟩
  have HQA := Aside0.mk (show Arr 32 q (parseB T) from hq ▸ Arr.mk' (parseB T) HLEN.out HRNG.out)
  obtain ⟨ok, hok⟩ : ∃ ok, good T = ok := ⟨_, rfl⟩
  have HRT := Aside0.mk (show ∀ W, Calls Try.prog 13 #[.string t] W fun e w' => e = .returned (.tuple #[.agg q, .bool ok]) ∧ Below W.heap.size W w' from fun W => by
    have := HRT.out W
    rwa [hq, hok] at this)
  have HSQ := Aside0.mk (show (Try.prog.info? 23).map (·.size) = some q.size by rw [size23, HQA.out.size])
  have HSQT := Aside0.mk (show (Try.prog.info? 23).map (·.size) = some q.toList.length by rw [size23, Array.length_toList, HQA.out.size])
  have HOQ := Aside0.mk (show q.all (·.oneCell') = true by rw [← hq]; exact cellsN_one _)
  have HZQ := Aside0.mk (show (32 : Nat) = q.size from HQA.out.size.symm)
  have HSZ := Aside0.mk (show (Try.prog.info? 23).map (·.size) = some (cellsN zeros32).size from size23)
  have HOK := Aside0.mk hok
  have HQQ := Aside0.mk hq
  clear hq hok
  go_wp2_with (first
    | (go_at_call 13; (with_reducible refine (HRT.out _).mono ?_); rintro e w5 ⟨rfl, hb1⟩; have HB5 := Aside0.mk (below_step HB4.out hb1); clear hb1)
    | (go_at_call 13; (with_reducible refine (HQ.out _).mono ?_); rintro e w6 ⟨rfl, hb1⟩; have HR2 := Aside0.mk (range_below hb1 (by simp) (range_cs (heap_alloc_new w5 (.cells q 23)))); have HB6 := Aside0.mk (below_step (below_alloc HB5.out _) hb1); clear hb1)
    | ((with_reducible refine arm_store_new (ty := 23) (x := .tmp 12) (y := .tmp 54) (c' := q) ?_ ?_ HSQ.out ?_ HOQ.out ?_); rfl; rfl; exact (Eq.trans (b := 32) rfl HZQ.out))
    | ((with_reducible refine arm_store_new (ty := 23) (x := .tmp 14) (y := .tmp 61) (c' := cellsN zeros32) ?_ ?_ HSZ.out ?_ (cellsN_one _) ?_); rfl; rfl; rfl))
  have HX := Aside0.mk (below_drew1 (below_alloc HB6.out (.cells (cellsN zeros32) 23)))
  have HRQ := Aside0.mk (show (w6.alloc (.cells (cellsN zeros32) 23)).rangeAt w5.heap.size 0 q.toList from range_below (below_alloc (Below.refl w6.heap.size w6) _) (World.block_lt_of_cell? w6 _ (HR2.out 0 (.int .u8 (rd (parseB T) 0)) (by
    have := HQA.out.at_ 0 (by rw [HLEN.out]; decide)
    simpa [rd] using this))) HR2.out)
  have HRD := Aside0.mk (show (w6.alloc (.cells (cellsN zeros32) 23)).rangeAt w.heap.size 0 c1.toList from range_below (below_alloc HB6.out _) (by simp) HR1.out)
  have hix := fun W => HSI.out W
  generalize w6.alloc (.cells (cellsN zeros32) 23) = W7 at *
  clear HR2
  cases ok with
  | false =>
    have hp0 : parseB T = zeros32 := parse_bad HOK.out
    have hz : ∀ W, (Op.equalIn 10000 23 (.agg q) (.agg (cellsN zeros32))).run Try.prog W = .ok true W := fun W => by
      have := eq32 W zeros32 zeros32 rfl rfl
      rw [decide_eq_true rfl] at this
      rw [← HQQ.out, hp0]
      exact this
    refine wp_region_noPanic ?_
    refine wp_region_held_drew (S := (fun w' => w'.rangeAt w5.heap.size 0 q.toList ∧ w'.rangeAt w.heap.size 0 c1.toList)) (by kernel_rfl) ?_ (fun hHeld => ?_)
    · exact ⟨HRQ.out, HRD.out⟩
    refine wpAnyH_take (i := 0) (oi := { dst := some 64, op := Go.Op.move (Go.Operand.tmp 13), type := 4, pos := "law.go:62", after := #[], guard := none }) (v := ?_) rfl (by kernel_rfl) (by kernel_rfl) (by kernel_rfl) (fun _ _ _ h => h) (Or.inl ⟨by rfl, ?_⟩) hHeld ?_
    rotate_left
    · intro w hSw; go_simp; with_reducible rfl
    try simp only [Act.put, List.setIfInBounds_toArray, List.set_cons_zero, List.set_cons_succ]
    refine wpAnyH_take (i := 1) (oi := { dst := some 65, op := Go.Op.unOp Go.UnOp.not 4 (Go.Operand.tmp 64), type := 4, pos := "law.go:62", after := #[{ on := 0, ground := Go.Ground.data }], guard := none }) (v := ?_) rfl (by kernel_rfl) (by kernel_rfl) (by kernel_rfl) (fun _ _ _ h => h) (Or.inl ⟨by rfl, ?_⟩) hHeld ?_
    rotate_left
    · intro w hSw; go_simp; with_reducible rfl
    try simp only [Act.put, List.setIfInBounds_toArray, List.set_cons_zero, List.set_cons_succ]
    refine wpAnyH_take (i := 2) (oi := { dst := some 66, op := Go.Op.move (Go.Operand.tmp 65), type := 4, pos := "law.go:62", after := #[{ on := 1, ground := Go.Ground.data }], guard := none }) (v := ?_) rfl (by kernel_rfl) (by kernel_rfl) (by kernel_rfl) (fun _ _ _ h => h) (Or.inl ⟨by rfl, ?_⟩) hHeld ?_
    rotate_left
    · intro w hSw; go_simp; with_reducible rfl
    try simp only [Act.put, List.setIfInBounds_toArray, List.set_cons_zero, List.set_cons_succ]
    refine wpAnyH_take (i := 3) (oi := { dst := some 67, op := Go.Op.load 23 (Go.Operand.tmp 12), type := 23, pos := "law.go:62", after := #[{ on := 2, ground := Go.Ground.guard }], guard := some (2, true) }) (v := _) rfl (by kernel_rfl) (by kernel_rfl) (by kernel_rfl) (fun _ _ _ h => h) (yieldsIf_load_mid (by rfl) 23 (.tmp 12) rfl w5.heap.size 0 rfl q.toList _ (fun _ h => h.1) h23 rfl HSQT.out) hHeld ?_
    try simp only [Act.put, List.setIfInBounds_toArray, List.set_cons_zero, List.set_cons_succ]
    refine wpAnyH_take (i := 4) (oi := { dst := some 68, op := Go.Op.build 23 #[], type := 23, pos := "law.go:62", after := #[{ on := 2, ground := Go.Ground.guard }], guard := some (2, true) }) (v := ?_) rfl (by kernel_rfl) (by kernel_rfl) (by kernel_rfl) (fun _ _ _ h => h) (Or.inl ⟨by rfl, ?_⟩) hHeld ?_
    rotate_left
    · intro w hSw; go_simp; with_reducible rfl
    try simp only [Act.put, List.setIfInBounds_toArray, List.set_cons_zero, List.set_cons_succ]
    refine wpAnyH_take (i := 5) (oi := { dst := some 69, op := Go.Op.binOp Go.BinOp.eql 23 (Go.Operand.tmp 67) (Go.Operand.tmp 68) 23, type := 4, pos := "law.go:62", after := #[{ on := 3, ground := Go.Ground.data }, { on := 4, ground := Go.Ground.data }, { on := 2, ground := Go.Ground.guard }], guard := some (2, true) }) (v := _) rfl (by kernel_rfl) (by kernel_rfl) (by kernel_rfl) (fun _ _ _ h => h) ((show YieldsIf _ _ _ _ (.bool true) _ from Or.inl ⟨by rfl, fun w hSw => by have hz := hz w; rw [← zeroCells] at hz; go_simp⟩)) hHeld ?_
    try simp only [Act.put, List.setIfInBounds_toArray, List.set_cons_zero, List.set_cons_succ]
    refine wpAnyH_take (i := 6) (oi := { dst := some 70, op := Go.Op.pick (Go.Operand.tmp 66) (Go.Operand.tmp 69) (Go.Operand.const (Go.Value.bool false)), type := 4, pos := "law.go:62", after := #[{ on := 2, ground := Go.Ground.data }, { on := 5, ground := Go.Ground.data }], guard := none }) (v := ?_) rfl (by kernel_rfl) (by kernel_rfl) (by kernel_rfl) (fun _ _ _ h => h) (Or.inl ⟨by rfl, ?_⟩) hHeld ?_
    rotate_left
    · intro w hSw; go_simp; with_reducible rfl
    try simp only [Act.put, List.setIfInBounds_toArray, List.set_cons_zero, List.set_cons_succ]
    refine wpAnyH_take (i := 7) (oi := { dst := some 71, op := Go.Op.move (Go.Operand.tmp 70), type := 4, pos := "law.go:62", after := #[{ on := 6, ground := Go.Ground.data }, { on := 2, ground := Go.Ground.chain }], guard := none }) (v := ?_) rfl (by kernel_rfl) (by kernel_rfl) (by kernel_rfl) (fun _ _ _ h => h) (Or.inl ⟨by rfl, ?_⟩) hHeld ?_
    rotate_left
    · intro w hSw; go_simp; with_reducible rfl
    try simp only [Act.put, List.setIfInBounds_toArray, List.set_cons_zero, List.set_cons_succ]
    refine wpAnyH_take (i := 8) (oi := { dst := some 72, op := Go.Op.move (Go.Operand.tmp 13), type := 4, pos := "law.go:62", after := #[{ on := 7, ground := Go.Ground.guard }], guard := some (7, false) }) (v := undef) rfl (by kernel_rfl) (by kernel_rfl) (by kernel_rfl) (fun _ _ _ h => h) (Or.inr ⟨by rfl, rfl⟩) hHeld ?_
    try simp only [Act.put, List.setIfInBounds_toArray, List.set_cons_zero, List.set_cons_succ]
    refine wpAnyH_take (i := 9) (oi := { dst := some 73, op := Go.Op.move (Go.Operand.tmp 72), type := 4, pos := "law.go:62", after := #[{ on := 8, ground := Go.Ground.data }, { on := 7, ground := Go.Ground.chain }, { on := 7, ground := Go.Ground.guard }], guard := some (7, false) }) (v := undef) rfl (by kernel_rfl) (by kernel_rfl) (by kernel_rfl) (fun _ _ _ h => h) (Or.inr ⟨by rfl, rfl⟩) hHeld ?_
    try simp only [Act.put, List.setIfInBounds_toArray, List.set_cons_zero, List.set_cons_succ]
    refine wpAnyH_take (i := 10) (oi := { dst := some 74, op := Go.Op.load 23 (Go.Operand.tmp 12), type := 23, pos := "law.go:62", after := #[{ on := 9, ground := Go.Ground.guard }], guard := some (9, true) }) (v := undef) rfl (by kernel_rfl) (by kernel_rfl) (by kernel_rfl) (fun _ _ _ h => h) (Or.inr ⟨by rfl, rfl⟩) hHeld ?_
    try simp only [Act.put, List.setIfInBounds_toArray, List.set_cons_zero, List.set_cons_succ]
    refine wpAnyH_take (i := 11) (oi := { dst := some 75, op := Go.Op.call { callee := Go.Callee.value (Go.Operand.func 11), args := #[Go.Operand.tmp 74], argTypes := #[23] }, type := 9, pos := "law.go:62", after := #[{ on := 10, ground := Go.Ground.data }, { on := 9, ground := Go.Ground.chain }, { on := 9, ground := Go.Ground.guard }], guard := some (9, true) }) (v := undef) rfl (by kernel_rfl) (by kernel_rfl) (by kernel_rfl) (fun _ _ _ h => h) (Or.inr ⟨by rfl, rfl⟩) hHeld ?_
    try simp only [Act.put, List.setIfInBounds_toArray, List.set_cons_zero, List.set_cons_succ]
    refine wpAnyH_take (i := 12) (oi := { dst := some 76, op := Go.Op.move (Go.Operand.tmp 11), type := 9, pos := "law.go:62", after := #[{ on := 9, ground := Go.Ground.guard }], guard := some (9, true) }) (v := undef) rfl (by kernel_rfl) (by kernel_rfl) (by kernel_rfl) (fun _ _ _ h => h) (Or.inr ⟨by rfl, rfl⟩) hHeld ?_
    try simp only [Act.put, List.setIfInBounds_toArray, List.set_cons_zero, List.set_cons_succ]
    refine wpAnyH_take (i := 13) (oi := { dst := some 77, op := Go.Op.binOp Go.BinOp.eql 9 (Go.Operand.tmp 75) (Go.Operand.tmp 76) 9, type := 4, pos := "law.go:62", after := #[{ on := 11, ground := Go.Ground.data }, { on := 12, ground := Go.Ground.data }, { on := 9, ground := Go.Ground.guard }], guard := some (9, true) }) (v := undef) rfl (by kernel_rfl) (by kernel_rfl) (by kernel_rfl) (fun _ _ _ h => h) (Or.inr ⟨by rfl, rfl⟩) hHeld ?_
    try simp only [Act.put, List.setIfInBounds_toArray, List.set_cons_zero, List.set_cons_succ]
    refine wpAnyH_take (i := 14) (oi := { dst := some 78, op := Go.Op.pick (Go.Operand.tmp 73) (Go.Operand.tmp 77) (Go.Operand.const (Go.Value.bool false)), type := 4, pos := "law.go:62", after := #[{ on := 9, ground := Go.Ground.data }, { on := 13, ground := Go.Ground.data }, { on := 7, ground := Go.Ground.guard }], guard := some (7, false) }) (v := undef) rfl (by kernel_rfl) (by kernel_rfl) (by kernel_rfl) (fun _ _ _ h => h) (Or.inr ⟨by rfl, rfl⟩) hHeld ?_
    try simp only [Act.put, List.setIfInBounds_toArray, List.set_cons_zero, List.set_cons_succ]
    refine wpAnyH_take (i := 15) (oi := { dst := some 79, op := Go.Op.move (Go.Operand.tmp 78), type := 4, pos := "law.go:62", after := #[{ on := 14, ground := Go.Ground.data }, { on := 11, ground := Go.Ground.chain }, { on := 7, ground := Go.Ground.guard }], guard := some (7, false) }) (v := undef) rfl (by kernel_rfl) (by kernel_rfl) (by kernel_rfl) (fun _ _ _ h => h) (Or.inr ⟨by rfl, rfl⟩) hHeld ?_
    try simp only [Act.put, List.setIfInBounds_toArray, List.set_cons_zero, List.set_cons_succ]
    refine wpAnyH_take (i := 16) (oi := { dst := some 80, op := Go.Op.load 23 (Go.Operand.tmp 12), type := 23, pos := "law.go:62", after := #[{ on := 15, ground := Go.Ground.guard }], guard := some (15, true) }) (v := undef) rfl (by kernel_rfl) (by kernel_rfl) (by kernel_rfl) (fun _ _ _ h => h) (Or.inr ⟨by rfl, rfl⟩) hHeld ?_
    try simp only [Act.put, List.setIfInBounds_toArray, List.set_cons_zero, List.set_cons_succ]
    refine wpAnyH_take (i := 17) (oi := { dst := some 81, op := Go.Op.load 23 (Go.Operand.tmp 3), type := 23, pos := "law.go:62", after := #[{ on := 15, ground := Go.Ground.guard }], guard := some (15, true) }) (v := undef) rfl (by kernel_rfl) (by kernel_rfl) (by kernel_rfl) (fun _ _ _ h => h) (Or.inr ⟨by rfl, rfl⟩) hHeld ?_
    try simp only [Act.put, List.setIfInBounds_toArray, List.set_cons_zero, List.set_cons_succ]
    refine wpAnyH_take (i := 18) (oi := { dst := some 82, op := Go.Op.binOp Go.BinOp.eql 23 (Go.Operand.tmp 80) (Go.Operand.tmp 81) 23, type := 4, pos := "law.go:62", after := #[{ on := 16, ground := Go.Ground.data }, { on := 17, ground := Go.Ground.data }, { on := 15, ground := Go.Ground.guard }], guard := some (15, true) }) (v := undef) rfl (by kernel_rfl) (by kernel_rfl) (by kernel_rfl) (fun _ _ _ h => h) (Or.inr ⟨by rfl, rfl⟩) hHeld ?_
    try simp only [Act.put, List.setIfInBounds_toArray, List.set_cons_zero, List.set_cons_succ]
    refine wpAnyH_take (i := 19) (oi := { dst := some 83, op := Go.Op.move (Go.Operand.tmp 2), type := 5, pos := "law.go:62", after := #[{ on := 15, ground := Go.Ground.guard }], guard := some (15, true) }) (v := undef) rfl (by kernel_rfl) (by kernel_rfl) (by kernel_rfl) (fun _ _ _ h => h) (Or.inr ⟨by rfl, rfl⟩) hHeld ?_
    try simp only [Act.put, List.setIfInBounds_toArray, List.set_cons_zero, List.set_cons_succ]
    refine wpAnyH_take (i := 20) (oi := { dst := some 84, op := Go.Op.move (Go.Operand.tmp 7), type := 9, pos := "law.go:62", after := #[{ on := 15, ground := Go.Ground.guard }], guard := some (15, true) }) (v := undef) rfl (by kernel_rfl) (by kernel_rfl) (by kernel_rfl) (fun _ _ _ h => h) (Or.inr ⟨by rfl, rfl⟩) hHeld ?_
    try simp only [Act.put, List.setIfInBounds_toArray, List.set_cons_zero, List.set_cons_succ]
    refine wpAnyH_take (i := 21) (oi := { dst := some 85, op := Go.Op.move (Go.Operand.tmp 10), type := 3, pos := "law.go:62", after := #[{ on := 15, ground := Go.Ground.guard }], guard := some (15, true) }) (v := undef) rfl (by kernel_rfl) (by kernel_rfl) (by kernel_rfl) (fun _ _ _ h => h) (Or.inr ⟨by rfl, rfl⟩) hHeld ?_
    try simp only [Act.put, List.setIfInBounds_toArray, List.set_cons_zero, List.set_cons_succ]
    refine wpAnyH_take (i := 22) (oi := { dst := some 86, op := Go.Op.index 9 (Go.Operand.tmp 84) (Go.Operand.tmp 85), type := 5, pos := "law.go:62", after := #[{ on := 20, ground := Go.Ground.data }, { on := 21, ground := Go.Ground.data }, { on := 15, ground := Go.Ground.guard }], guard := some (15, true) }) (v := undef) rfl (by kernel_rfl) (by kernel_rfl) (by kernel_rfl) (fun _ _ _ h => h) (Or.inr ⟨by rfl, rfl⟩) hHeld ?_
    try simp only [Act.put, List.setIfInBounds_toArray, List.set_cons_zero, List.set_cons_succ]
    refine wpAnyH_take (i := 23) (oi := { dst := some 87, op := Go.Op.binOp Go.BinOp.eql 5 (Go.Operand.tmp 83) (Go.Operand.tmp 86) 5, type := 4, pos := "law.go:62", after := #[{ on := 19, ground := Go.Ground.data }, { on := 22, ground := Go.Ground.data }, { on := 15, ground := Go.Ground.guard }], guard := some (15, true) }) (v := undef) rfl (by kernel_rfl) (by kernel_rfl) (by kernel_rfl) (fun _ _ _ h => h) (Or.inr ⟨by rfl, rfl⟩) hHeld ?_
    try simp only [Act.put, List.setIfInBounds_toArray, List.set_cons_zero, List.set_cons_succ]
    refine wpAnyH_take (i := 24) (oi := { dst := some 88, op := Go.Op.binOp Go.BinOp.eql 4 (Go.Operand.tmp 82) (Go.Operand.tmp 87) 4, type := 4, pos := "law.go:62", after := #[{ on := 18, ground := Go.Ground.data }, { on := 23, ground := Go.Ground.data }, { on := 15, ground := Go.Ground.guard }], guard := some (15, true) }) (v := undef) rfl (by kernel_rfl) (by kernel_rfl) (by kernel_rfl) (fun _ _ _ h => h) (Or.inr ⟨by rfl, rfl⟩) hHeld ?_
    try simp only [Act.put, List.setIfInBounds_toArray, List.set_cons_zero, List.set_cons_succ]
    refine wpAnyH_take (i := 25) (oi := { dst := some 89, op := Go.Op.pick (Go.Operand.tmp 79) (Go.Operand.tmp 88) (Go.Operand.const (Go.Value.bool false)), type := 4, pos := "law.go:62", after := #[{ on := 15, ground := Go.Ground.data }, { on := 24, ground := Go.Ground.data }, { on := 7, ground := Go.Ground.guard }], guard := some (7, false) }) (v := undef) rfl (by kernel_rfl) (by kernel_rfl) (by kernel_rfl) (fun _ _ _ h => h) (Or.inr ⟨by rfl, rfl⟩) hHeld ?_
    try simp only [Act.put, List.setIfInBounds_toArray, List.set_cons_zero, List.set_cons_succ]
    refine wpAnyH_take (i := 26) (oi := { dst := some 90, op := Go.Op.pick (Go.Operand.tmp 71) (Go.Operand.const (Go.Value.bool true)) (Go.Operand.tmp 89), type := 4, pos := "law.go:62", after := #[{ on := 7, ground := Go.Ground.data }, { on := 25, ground := Go.Ground.data }], guard := none }) (v := ?_) rfl (by kernel_rfl) (by kernel_rfl) (by kernel_rfl) (fun _ _ _ h => h) (Or.inl ⟨by rfl, ?_⟩) hHeld ?_
    rotate_left
    · intro w hSw; go_simp; with_reducible rfl
    try simp only [Act.put, List.setIfInBounds_toArray, List.set_cons_zero, List.set_cons_succ]
    refine wpAnyH_take (i := 27) (oi := { dst := some 6, op := Go.Op.assign (Go.Operand.tmp 90), type := 4, pos := "law.go:62", after := #[{ on := 26, ground := Go.Ground.data }, { on := 15, ground := Go.Ground.chain }, { on := 0, ground := Go.Ground.phase }, { on := 1, ground := Go.Ground.phase }, { on := 2, ground := Go.Ground.phase }, { on := 3, ground := Go.Ground.phase }, { on := 4, ground := Go.Ground.phase }, { on := 5, ground := Go.Ground.phase }, { on := 6, ground := Go.Ground.phase }, { on := 7, ground := Go.Ground.phase }, { on := 8, ground := Go.Ground.phase }, { on := 9, ground := Go.Ground.phase }, { on := 10, ground := Go.Ground.phase }, { on := 11, ground := Go.Ground.phase }, { on := 12, ground := Go.Ground.phase }, { on := 13, ground := Go.Ground.phase }, { on := 14, ground := Go.Ground.phase }, { on := 15, ground := Go.Ground.phase }, { on := 16, ground := Go.Ground.phase }, { on := 17, ground := Go.Ground.phase }, { on := 18, ground := Go.Ground.phase }, { on := 19, ground := Go.Ground.phase }, { on := 20, ground := Go.Ground.phase }, { on := 21, ground := Go.Ground.phase }, { on := 22, ground := Go.Ground.phase }, { on := 23, ground := Go.Ground.phase }, { on := 24, ground := Go.Ground.phase }, { on := 25, ground := Go.Ground.phase }, { on := 26, ground := Go.Ground.phase }], guard := none }) (v := ?_) rfl (by kernel_rfl) (by kernel_rfl) (by kernel_rfl) (fun _ _ _ h => h) (Or.inl ⟨by rfl, ?_⟩) hHeld ?_
    rotate_left
    · intro w hSw; go_simp; with_reducible rfl
    try simp only [Act.put, List.setIfInBounds_toArray, List.set_cons_zero, List.set_cons_succ]
    refine wpAnyH_done (by kernel_rfl) ?_ _
    refine NoPanic.normal ?_
    go_wp2
    go_ret
    exact ⟨rfl, below_step HW.out HX.out⟩
  | true =>
    have hp0 : parseB T = pairs T := parse_good HOK.out
    obtain ⟨hTL1, hTL2⟩ := HTL.out HOK.out
    have hx : hexL (parseB T) = T := by rw [hp0]; exact hTL1
    have he : ∀ W, (Op.equalIn 10000 23 (.agg q) (.agg c1)).run Try.prog W = .ok (decide (c = rd (hexL b) i)) W := fun W => by
      have := eq32 W (parseB T) b HLEN.out HA.out.len
      rw [← HA.out.eq, show (List.map (Value.int .u8) (parseB T)).toArray = q from HQA.out.eq.symm] at this
      rw [this]
      congr 1
      rw [decide_eq_decide, hp0]
      exact hTL2
    have HHX := Aside0.mk (show strOfNums (hexL (parseB T)) = t by rw [hx]; exact HT.out)
    refine wp_region_noPanic ?_
    refine wp_region_held_drew (S := (fun w' => w'.rangeAt w5.heap.size 0 q.toList ∧ w'.rangeAt w.heap.size 0 c1.toList)) (by kernel_rfl) ?_ (fun hHeld => ?_)
    · exact ⟨HRQ.out, HRD.out⟩
    refine wpAnyH_take (i := 0) (oi := { dst := some 64, op := Go.Op.move (Go.Operand.tmp 13), type := 4, pos := "law.go:62", after := #[], guard := none }) (v := ?_) rfl (by kernel_rfl) (by kernel_rfl) (by kernel_rfl) (fun _ _ _ h => h) (Or.inl ⟨by rfl, ?_⟩) hHeld ?_
    rotate_left
    · intro w hSw; go_simp; with_reducible rfl
    try simp only [Act.put, List.setIfInBounds_toArray, List.set_cons_zero, List.set_cons_succ]
    refine wpAnyH_take (i := 1) (oi := { dst := some 65, op := Go.Op.unOp Go.UnOp.not 4 (Go.Operand.tmp 64), type := 4, pos := "law.go:62", after := #[{ on := 0, ground := Go.Ground.data }], guard := none }) (v := ?_) rfl (by kernel_rfl) (by kernel_rfl) (by kernel_rfl) (fun _ _ _ h => h) (Or.inl ⟨by rfl, ?_⟩) hHeld ?_
    rotate_left
    · intro w hSw; go_simp; with_reducible rfl
    try simp only [Act.put, List.setIfInBounds_toArray, List.set_cons_zero, List.set_cons_succ]
    refine wpAnyH_take (i := 2) (oi := { dst := some 66, op := Go.Op.move (Go.Operand.tmp 65), type := 4, pos := "law.go:62", after := #[{ on := 1, ground := Go.Ground.data }], guard := none }) (v := ?_) rfl (by kernel_rfl) (by kernel_rfl) (by kernel_rfl) (fun _ _ _ h => h) (Or.inl ⟨by rfl, ?_⟩) hHeld ?_
    rotate_left
    · intro w hSw; go_simp; with_reducible rfl
    try simp only [Act.put, List.setIfInBounds_toArray, List.set_cons_zero, List.set_cons_succ]
    refine wpAnyH_take (i := 3) (oi := { dst := some 67, op := Go.Op.load 23 (Go.Operand.tmp 12), type := 23, pos := "law.go:62", after := #[{ on := 2, ground := Go.Ground.guard }], guard := some (2, true) }) (v := undef) rfl (by kernel_rfl) (by kernel_rfl) (by kernel_rfl) (fun _ _ _ h => h) (Or.inr ⟨by rfl, rfl⟩) hHeld ?_
    try simp only [Act.put, List.setIfInBounds_toArray, List.set_cons_zero, List.set_cons_succ]
    refine wpAnyH_take (i := 4) (oi := { dst := some 68, op := Go.Op.build 23 #[], type := 23, pos := "law.go:62", after := #[{ on := 2, ground := Go.Ground.guard }], guard := some (2, true) }) (v := undef) rfl (by kernel_rfl) (by kernel_rfl) (by kernel_rfl) (fun _ _ _ h => h) (Or.inr ⟨by rfl, rfl⟩) hHeld ?_
    try simp only [Act.put, List.setIfInBounds_toArray, List.set_cons_zero, List.set_cons_succ]
    refine wpAnyH_take (i := 5) (oi := { dst := some 69, op := Go.Op.binOp Go.BinOp.eql 23 (Go.Operand.tmp 67) (Go.Operand.tmp 68) 23, type := 4, pos := "law.go:62", after := #[{ on := 3, ground := Go.Ground.data }, { on := 4, ground := Go.Ground.data }, { on := 2, ground := Go.Ground.guard }], guard := some (2, true) }) (v := undef) rfl (by kernel_rfl) (by kernel_rfl) (by kernel_rfl) (fun _ _ _ h => h) (Or.inr ⟨by rfl, rfl⟩) hHeld ?_
    try simp only [Act.put, List.setIfInBounds_toArray, List.set_cons_zero, List.set_cons_succ]
    refine wpAnyH_take (i := 6) (oi := { dst := some 70, op := Go.Op.pick (Go.Operand.tmp 66) (Go.Operand.tmp 69) (Go.Operand.const (Go.Value.bool false)), type := 4, pos := "law.go:62", after := #[{ on := 2, ground := Go.Ground.data }, { on := 5, ground := Go.Ground.data }], guard := none }) (v := ?_) rfl (by kernel_rfl) (by kernel_rfl) (by kernel_rfl) (fun _ _ _ h => h) (Or.inl ⟨by rfl, ?_⟩) hHeld ?_
    rotate_left
    · intro w hSw; go_simp; with_reducible rfl
    try simp only [Act.put, List.setIfInBounds_toArray, List.set_cons_zero, List.set_cons_succ]
    refine wpAnyH_take (i := 7) (oi := { dst := some 71, op := Go.Op.move (Go.Operand.tmp 70), type := 4, pos := "law.go:62", after := #[{ on := 6, ground := Go.Ground.data }, { on := 2, ground := Go.Ground.chain }], guard := none }) (v := ?_) rfl (by kernel_rfl) (by kernel_rfl) (by kernel_rfl) (fun _ _ _ h => h) (Or.inl ⟨by rfl, ?_⟩) hHeld ?_
    rotate_left
    · intro w hSw; go_simp; with_reducible rfl
    try simp only [Act.put, List.setIfInBounds_toArray, List.set_cons_zero, List.set_cons_succ]
    refine wpAnyH_take (i := 8) (oi := { dst := some 72, op := Go.Op.move (Go.Operand.tmp 13), type := 4, pos := "law.go:62", after := #[{ on := 7, ground := Go.Ground.guard }], guard := some (7, false) }) (v := ?_) rfl (by kernel_rfl) (by kernel_rfl) (by kernel_rfl) (fun _ _ _ h => h) (Or.inl ⟨by rfl, ?_⟩) hHeld ?_
    rotate_left
    · intro w hSw; go_simp; with_reducible rfl
    try simp only [Act.put, List.setIfInBounds_toArray, List.set_cons_zero, List.set_cons_succ]
    refine wpAnyH_take (i := 9) (oi := { dst := some 73, op := Go.Op.move (Go.Operand.tmp 72), type := 4, pos := "law.go:62", after := #[{ on := 8, ground := Go.Ground.data }, { on := 7, ground := Go.Ground.chain }, { on := 7, ground := Go.Ground.guard }], guard := some (7, false) }) (v := ?_) rfl (by kernel_rfl) (by kernel_rfl) (by kernel_rfl) (fun _ _ _ h => h) (Or.inl ⟨by rfl, ?_⟩) hHeld ?_
    rotate_left
    · intro w hSw; go_simp; with_reducible rfl
    try simp only [Act.put, List.setIfInBounds_toArray, List.set_cons_zero, List.set_cons_succ]
    refine wpAnyH_take (i := 10) (oi := { dst := some 74, op := Go.Op.load 23 (Go.Operand.tmp 12), type := 23, pos := "law.go:62", after := #[{ on := 9, ground := Go.Ground.guard }], guard := some (9, true) }) (v := _) rfl (by kernel_rfl) (by kernel_rfl) (by kernel_rfl) (fun _ _ _ h => h) (yieldsIf_load_mid (by rfl) 23 (.tmp 12) rfl w5.heap.size 0 rfl q.toList _ (fun _ h => h.1) h23 rfl HSQT.out) hHeld ?_
    try simp only [Act.put, List.setIfInBounds_toArray, List.set_cons_zero, List.set_cons_succ]
    refine wpAnyH_take (i := 12) (oi := { dst := some 76, op := Go.Op.move (Go.Operand.tmp 11), type := 9, pos := "law.go:62", after := #[{ on := 9, ground := Go.Ground.guard }], guard := some (9, true) }) (v := ?_) rfl (by kernel_rfl) (by kernel_rfl) (by kernel_rfl) (fun _ _ _ h => h) (Or.inl ⟨by rfl, ?_⟩) hHeld ?_
    rotate_left
    · intro w hSw; go_simp; with_reducible rfl
    try simp only [Act.put, List.setIfInBounds_toArray, List.set_cons_zero, List.set_cons_succ]
    refine wpAnyH_ready (rs := [11]) (by kernel_rfl) (by simp) ?_
    refine AllReadyH.cons (o := { dst := some 75, op := Go.Op.call { callee := Go.Callee.value (Go.Operand.func 11), args := #[Go.Operand.tmp 74], argTypes := #[23] }, type := 9, pos := "law.go:62", after := #[{ on := 10, ground := Go.Ground.data }, { on := 9, ground := Go.Ground.chain }, { on := 9, ground := Go.Ground.guard }], guard := some (9, true) }) rfl (fun K hK => ?_) AllReadyH.nil
    try rw [(show q.toList.toArray = q from Array.toArray_toList (xs := q))]
    refine step_call1 (f := 11) (x := .tmp 74) (v := .agg q) (by rfl) rfl rfl enter11 (hex_v q _ _ HQA.out) ?_
    rintro u1 x1 ⟨rfl, hb⟩
    rw [HHX.out]
    have HRQ := Aside0.mk (range_below hb (World.block_lt_of_cell? _ _ (HRQ.out 0 (.int .u8 (rd (parseB T) 0)) (by have := HQA.out.at_ 0 (by rw [HLEN.out]; decide); simpa [rd] using this))) HRQ.out)
    have HRD := Aside0.mk (range_below hb (Nat.lt_of_lt_of_le (by simp) HX.out.size) HRD.out)
    have HX := Aside0.mk (below_step HX.out hb)
    clear hb
    refine hK.out _ _ (⟨HRQ.out, HRD.out⟩) (fun hHeld => ?_)
    clear hK K
    try simp only [Act.put, List.setIfInBounds_toArray, List.set_cons_zero, List.set_cons_succ]
    refine wpAnyH_take (i := 13) (oi := { dst := some 77, op := Go.Op.binOp Go.BinOp.eql 9 (Go.Operand.tmp 75) (Go.Operand.tmp 76) 9, type := 4, pos := "law.go:62", after := #[{ on := 11, ground := Go.Ground.data }, { on := 12, ground := Go.Ground.data }, { on := 9, ground := Go.Ground.guard }], guard := some (9, true) }) (v := _) rfl (by kernel_rfl) (by kernel_rfl) (by kernel_rfl) (fun _ _ _ h => h) ((show YieldsIf _ _ _ _ (.bool true) _ from Or.inl ⟨by rfl, fun w hSw => by go_simp⟩)) hHeld ?_
    try simp only [Act.put, List.setIfInBounds_toArray, List.set_cons_zero, List.set_cons_succ]
    refine wpAnyH_take (i := 14) (oi := { dst := some 78, op := Go.Op.pick (Go.Operand.tmp 73) (Go.Operand.tmp 77) (Go.Operand.const (Go.Value.bool false)), type := 4, pos := "law.go:62", after := #[{ on := 9, ground := Go.Ground.data }, { on := 13, ground := Go.Ground.data }, { on := 7, ground := Go.Ground.guard }], guard := some (7, false) }) (v := ?_) rfl (by kernel_rfl) (by kernel_rfl) (by kernel_rfl) (fun _ _ _ h => h) (Or.inl ⟨by rfl, ?_⟩) hHeld ?_
    rotate_left
    · intro w hSw; go_simp; with_reducible rfl
    try simp only [Act.put, List.setIfInBounds_toArray, List.set_cons_zero, List.set_cons_succ]
    refine wpAnyH_take (i := 15) (oi := { dst := some 79, op := Go.Op.move (Go.Operand.tmp 78), type := 4, pos := "law.go:62", after := #[{ on := 14, ground := Go.Ground.data }, { on := 11, ground := Go.Ground.chain }, { on := 7, ground := Go.Ground.guard }], guard := some (7, false) }) (v := ?_) rfl (by kernel_rfl) (by kernel_rfl) (by kernel_rfl) (fun _ _ _ h => h) (Or.inl ⟨by rfl, ?_⟩) hHeld ?_
    rotate_left
    · intro w hSw; go_simp; with_reducible rfl
    try simp only [Act.put, List.setIfInBounds_toArray, List.set_cons_zero, List.set_cons_succ]
    refine wpAnyH_take (i := 16) (oi := { dst := some 80, op := Go.Op.load 23 (Go.Operand.tmp 12), type := 23, pos := "law.go:62", after := #[{ on := 15, ground := Go.Ground.guard }], guard := some (15, true) }) (v := _) rfl (by kernel_rfl) (by kernel_rfl) (by kernel_rfl) (fun _ _ _ h => h) (yieldsIf_load_mid (by rfl) 23 (.tmp 12) rfl w5.heap.size 0 rfl q.toList _ (fun _ h => h.1) h23 rfl HSQT.out) hHeld ?_
    try simp only [Act.put, List.setIfInBounds_toArray, List.set_cons_zero, List.set_cons_succ]
    refine wpAnyH_take (i := 17) (oi := { dst := some 81, op := Go.Op.load 23 (Go.Operand.tmp 3), type := 23, pos := "law.go:62", after := #[{ on := 15, ground := Go.Ground.guard }], guard := some (15, true) }) (v := _) rfl (by kernel_rfl) (by kernel_rfl) (by kernel_rfl) (fun _ _ _ h => h) (yieldsIf_load_mid (by rfl) 23 (.tmp 3) rfl w.heap.size 0 rfl c1.toList _ (fun _ h => h.2) h23 rfl HT1.out) hHeld ?_
    try simp only [Act.put, List.setIfInBounds_toArray, List.set_cons_zero, List.set_cons_succ]
    refine wpAnyH_take (i := 18) (oi := { dst := some 82, op := Go.Op.binOp Go.BinOp.eql 23 (Go.Operand.tmp 80) (Go.Operand.tmp 81) 23, type := 4, pos := "law.go:62", after := #[{ on := 16, ground := Go.Ground.data }, { on := 17, ground := Go.Ground.data }, { on := 15, ground := Go.Ground.guard }], guard := some (15, true) }) (v := _) rfl (by kernel_rfl) (by kernel_rfl) (by kernel_rfl) (fun _ _ _ h => h) ((show YieldsIf _ _ _ _ (.bool (decide (c = rd (hexL b) i))) _ from Or.inl ⟨by rfl, fun w hSw => by have he := he w; go_simp⟩)) hHeld ?_
    try simp only [Act.put, List.setIfInBounds_toArray, List.set_cons_zero, List.set_cons_succ]
    refine wpAnyH_take (i := 19) (oi := { dst := some 83, op := Go.Op.move (Go.Operand.tmp 2), type := 5, pos := "law.go:62", after := #[{ on := 15, ground := Go.Ground.guard }], guard := some (15, true) }) (v := ?_) rfl (by kernel_rfl) (by kernel_rfl) (by kernel_rfl) (fun _ _ _ h => h) (Or.inl ⟨by rfl, ?_⟩) hHeld ?_
    rotate_left
    · intro w hSw; go_simp; with_reducible rfl
    try simp only [Act.put, List.setIfInBounds_toArray, List.set_cons_zero, List.set_cons_succ]
    refine wpAnyH_take (i := 20) (oi := { dst := some 84, op := Go.Op.move (Go.Operand.tmp 7), type := 9, pos := "law.go:62", after := #[{ on := 15, ground := Go.Ground.guard }], guard := some (15, true) }) (v := ?_) rfl (by kernel_rfl) (by kernel_rfl) (by kernel_rfl) (fun _ _ _ h => h) (Or.inl ⟨by rfl, ?_⟩) hHeld ?_
    rotate_left
    · intro w hSw; go_simp; with_reducible rfl
    try simp only [Act.put, List.setIfInBounds_toArray, List.set_cons_zero, List.set_cons_succ]
    refine wpAnyH_take (i := 21) (oi := { dst := some 85, op := Go.Op.move (Go.Operand.tmp 10), type := 3, pos := "law.go:62", after := #[{ on := 15, ground := Go.Ground.guard }], guard := some (15, true) }) (v := ?_) rfl (by kernel_rfl) (by kernel_rfl) (by kernel_rfl) (fun _ _ _ h => h) (Or.inl ⟨by rfl, ?_⟩) hHeld ?_
    rotate_left
    · intro w hSw; go_simp; with_reducible rfl
    try simp only [Act.put, List.setIfInBounds_toArray, List.set_cons_zero, List.set_cons_succ]
    refine wpAnyH_take (i := 22) (oi := { dst := some 86, op := Go.Op.index 9 (Go.Operand.tmp 84) (Go.Operand.tmp 85), type := 5, pos := "law.go:62", after := #[{ on := 20, ground := Go.Ground.data }, { on := 21, ground := Go.Ground.data }, { on := 15, ground := Go.Ground.guard }], guard := some (15, true) }) (v := _) rfl (by kernel_rfl) (by kernel_rfl) (by kernel_rfl) (fun _ _ _ h => h) (yields_str (by rfl) (.tmp 84) (.tmp 85) rfl s .i64 i rfl rfl (by omega) (by omega)) hHeld ?_
    try simp only [Act.put, List.setIfInBounds_toArray, List.set_cons_zero, List.set_cons_succ]
    refine wpAnyH_take (i := 23) (oi := { dst := some 87, op := Go.Op.binOp Go.BinOp.eql 5 (Go.Operand.tmp 83) (Go.Operand.tmp 86) 5, type := 4, pos := "law.go:62", after := #[{ on := 19, ground := Go.Ground.data }, { on := 22, ground := Go.Ground.data }, { on := 15, ground := Go.Ground.guard }], guard := some (15, true) }) (v := _) rfl (by kernel_rfl) (by kernel_rfl) (by kernel_rfl) (fun _ _ _ h => h) ((show YieldsIf _ _ _ _ (.bool (decide (c = rd (hexL b) i))) _ from Or.inl ⟨by rfl, fun w hSw => by go_simp; try rw [HBS.out]; try rfl⟩)) hHeld ?_
    try simp only [Act.put, List.setIfInBounds_toArray, List.set_cons_zero, List.set_cons_succ]
    refine wpAnyH_take (i := 24) (oi := { dst := some 88, op := Go.Op.binOp Go.BinOp.eql 4 (Go.Operand.tmp 82) (Go.Operand.tmp 87) 4, type := 4, pos := "law.go:62", after := #[{ on := 18, ground := Go.Ground.data }, { on := 23, ground := Go.Ground.data }, { on := 15, ground := Go.Ground.guard }], guard := some (15, true) }) (v := _) rfl (by kernel_rfl) (by kernel_rfl) (by kernel_rfl) (fun _ _ _ h => h) ((show YieldsIf _ _ _ _ (.bool true) _ from Or.inl ⟨by rfl, fun w hSw => by go_simp⟩)) hHeld ?_
    try simp only [Act.put, List.setIfInBounds_toArray, List.set_cons_zero, List.set_cons_succ]
    refine wpAnyH_take (i := 25) (oi := { dst := some 89, op := Go.Op.pick (Go.Operand.tmp 79) (Go.Operand.tmp 88) (Go.Operand.const (Go.Value.bool false)), type := 4, pos := "law.go:62", after := #[{ on := 15, ground := Go.Ground.data }, { on := 24, ground := Go.Ground.data }, { on := 7, ground := Go.Ground.guard }], guard := some (7, false) }) (v := ?_) rfl (by kernel_rfl) (by kernel_rfl) (by kernel_rfl) (fun _ _ _ h => h) (Or.inl ⟨by rfl, ?_⟩) hHeld ?_
    rotate_left
    · intro w hSw; go_simp; with_reducible rfl
    try simp only [Act.put, List.setIfInBounds_toArray, List.set_cons_zero, List.set_cons_succ]
    refine wpAnyH_take (i := 26) (oi := { dst := some 90, op := Go.Op.pick (Go.Operand.tmp 71) (Go.Operand.const (Go.Value.bool true)) (Go.Operand.tmp 89), type := 4, pos := "law.go:62", after := #[{ on := 7, ground := Go.Ground.data }, { on := 25, ground := Go.Ground.data }], guard := none }) (v := ?_) rfl (by kernel_rfl) (by kernel_rfl) (by kernel_rfl) (fun _ _ _ h => h) (Or.inl ⟨by rfl, ?_⟩) hHeld ?_
    rotate_left
    · intro w hSw; go_simp; with_reducible rfl
    try simp only [Act.put, List.setIfInBounds_toArray, List.set_cons_zero, List.set_cons_succ]
    refine wpAnyH_take (i := 27) (oi := { dst := some 6, op := Go.Op.assign (Go.Operand.tmp 90), type := 4, pos := "law.go:62", after := #[{ on := 26, ground := Go.Ground.data }, { on := 15, ground := Go.Ground.chain }, { on := 0, ground := Go.Ground.phase }, { on := 1, ground := Go.Ground.phase }, { on := 2, ground := Go.Ground.phase }, { on := 3, ground := Go.Ground.phase }, { on := 4, ground := Go.Ground.phase }, { on := 5, ground := Go.Ground.phase }, { on := 6, ground := Go.Ground.phase }, { on := 7, ground := Go.Ground.phase }, { on := 8, ground := Go.Ground.phase }, { on := 9, ground := Go.Ground.phase }, { on := 10, ground := Go.Ground.phase }, { on := 11, ground := Go.Ground.phase }, { on := 12, ground := Go.Ground.phase }, { on := 13, ground := Go.Ground.phase }, { on := 14, ground := Go.Ground.phase }, { on := 15, ground := Go.Ground.phase }, { on := 16, ground := Go.Ground.phase }, { on := 17, ground := Go.Ground.phase }, { on := 18, ground := Go.Ground.phase }, { on := 19, ground := Go.Ground.phase }, { on := 20, ground := Go.Ground.phase }, { on := 21, ground := Go.Ground.phase }, { on := 22, ground := Go.Ground.phase }, { on := 23, ground := Go.Ground.phase }, { on := 24, ground := Go.Ground.phase }, { on := 25, ground := Go.Ground.phase }, { on := 26, ground := Go.Ground.phase }], guard := none }) (v := ?_) rfl (by kernel_rfl) (by kernel_rfl) (by kernel_rfl) (fun _ _ _ h => h) (Or.inl ⟨by rfl, ?_⟩) hHeld ?_
    rotate_left
    · intro w hSw; go_simp; with_reducible rfl
    try simp only [Act.put, List.setIfInBounds_toArray, List.set_cons_zero, List.set_cons_succ]
    refine wpAnyH_done (by kernel_rfl) ?_ _
    refine NoPanic.normal ?_
    go_wp2
    go_ret
    exact ⟨rfl, below_step HW.out HX.out⟩
theorem ShaBack_walk (b0 : List Value) (l0 : List Int) (x1 x2 : Int) (w : World) (ha0 : Arr 32 b0.toArray l0) (hw0 : ∀ x ∈ l0, (Lit.int .u8 x).wf = true) (hw1 : (Lit.int .i64 x1).wf = true) (hw2 : (Lit.int .u8 x2).wf = true) :
    Calls Try.prog 4 #[.agg b0.toArray, .int .i64 x1, .int .u8 x2] w fun e w' => e = .returned (.bool true) ∧ Below w.heap.size w w' := ShaBack_any b0.toArray l0 x1 x2 w ha0 (wf_u8 hw2)
end Go.Proofs.Ytcpcellocnojcaa

import Derived.Test.YtcpcellocnojcaaOnce
import Derived.Test.YtcpcellocnojcaaStep
namespace Go.Proofs.Ytcpcellocnojcaa
open Go Go.RowKit Go.Proofs.YtcpcellocnojcaaW.PrintWords
set_option linter.unusedVariables false
set_option linter.unusedSimpArgs false

/-- The cells of bytes with a name. -/
def nmL (v : Value) (d m : Int) (ids : List Int) (s : Int) : List Value := v :: .int .u32 d :: .int .i32 m :: .int .u32 0 :: (ids.map (Value.int .u8) ++ [.int .i64 s])
def nm (v : Value) (d m : Int) (ids : List Int) (s : Int) : Array Value := (nmL v d m ids s).toArray
theorem size23a (l : List Int) (h : l.length = 32) : (Try.prog.info? 23).map (·.size) = some ((l.map (Value.int .u8)).toArray).size := by rw [size23]; simp [h]
def z32 : List Int := List.replicate 32 0
theorem size92 : (Try.prog.info? 92).map (·.size) = some 37 := by kernel_rfl
theorem nm_d (v : Value) (d m : Int) (ids : List Int) (s d' : Int) : (nm v d m ids s).setIfInBounds 1 (.int .u32 d') = nm v d' m ids s := by simp [nm, nmL]
theorem nm_m (v : Value) (d m : Int) (ids : List Int) (s m' : Int) : (nm v d m ids s).setIfInBounds 2 (.int .i32 m') = nm v d m' ids s := by simp [nm, nmL]
theorem nm_s (v : Value) (d m : Int) (ids : List Int) (s s' : Int) (h : ids.length = 32) : (nm v d m ids s).setIfInBounds 36 (.int .i64 s') = nm v d m ids s' := by
  simp [nm, nmL, List.set_append, h]
theorem nm_cell {w : World} {g : Nat} {v : Value} {d m s : Int} {ids : List Int} (h : w.heap[g]? = some (.cells (nm v d m ids s) 92 (0, 0))) (hi : ids.length = 32) :
    w.cell? ⟨g, 0, none⟩ = some v ∧ w.cell? ⟨g, 1, none⟩ = some (.int .u32 d) ∧ w.cell? ⟨g, 2, none⟩ = some (.int .i32 m) ∧ w.cell? ⟨g, 36, none⟩ = some (.int .i64 s) ∧ w.rangeAt g 4 (ids.map (Value.int .u8)) := by
  refine ⟨blk_cell h 0, blk_cell h 1, blk_cell h 2, ?_, fun j u hu => ?_⟩
  · rw [blk_cell h]
    simp [nm, nmL, List.getElem?_append, hi]
  · rw [blk_cell h]
    have hj : j < ids.length := by
      rcases Nat.lt_or_ge j ids.length with h | h
      · exact h
      · rw [List.getElem?_eq_none (by simpa using h)] at hu; cases hu
    rw [← hu]
    have : 4 + j = j + 4 := by omega
    simp [nm, nmL, this, List.getElem?_append, hj]
def setV (l : List Value) (o : Nat) : List Value → List Value
  | [] => l
  | v :: r => setV (l.set o v) (o + 1) r
theorem setCells_V {g : Nat} {t : TypeId} : ∀ (vs : List Value) (o : Nat) (l : List Value) (w : World), w.heap[g]? = some (.cells l.toArray t (0, 0)) → (w.setCells g o vs).heap[g]? = some (.cells (setV l o vs).toArray t (0, 0))
  | [], _, _, _, h => h
  | v :: r, o, l, w, h => by
    have h1 : (w.setCell ⟨g, o, none⟩ v).heap[g]? = some (.cells (l.set o v).toArray t (0, 0)) := by
      rw [heap_setCell_same w _ _ _ t _ h]; simp
    exact setCells_V r (o + 1) _ _ h1
theorem setV_mid : ∀ (vs a b c : List Value), vs.length = b.length → setV (a ++ (b ++ c)) a.length vs = a ++ (vs ++ c)
  | [], a, [], c, _ => rfl
  | v :: r, a, y :: b, c, h => by
    show setV ((a ++ (y :: b ++ c)).set a.length v) (a.length + 1) r = _
    have e : (a ++ (y :: b ++ c)).set a.length v = (a ++ [v]) ++ (b ++ c) := by
      rw [List.set_append_right _ _ (Nat.le_refl _), Nat.sub_self]; simp
    have h2 := setV_mid r (a ++ [v]) b c (by simpa using h)
    rw [List.length_append] at h2
    rw [e]
    exact h2.trans (by simp)
  | [], a, _ :: _, c, h => by cases h
  | _ :: _, a, [], c, h => by cases h
theorem nm_store {w : World} {g : Nat} {v : Value} {d m s : Int} {ids ids' : List Int} (h : w.heap[g]? = some (.cells (nm v d m ids s) 92 (0, 0))) (hi : ids.length = 32) (hi' : ids'.length = 32) :
    (w.setCells g 4 (((ids'.map (Value.int .u8)).toArray).toList)).heap[g]? = some (.cells (nm v d m ids' s) 92 (0, 0)) := by
  have h1 := setCells_V (ids'.map (Value.int .u8)) 4 _ w h
  have h2 := setV_mid (ids'.map (Value.int .u8)) [v, .int .u32 d, .int .i32 m, .int .u32 0] (ids.map (Value.int .u8)) [.int .i64 s] (by simp [hi, hi'])
  have h3 : setV (nmL v d m ids s) 4 (ids'.map (Value.int .u8)) = nmL v d m ids' s := h2
  rw [h3] at h1
  exact h1
theorem nm_len (v : Value) (d m : Int) (ids : List Int) (s : Int) (hi : ids.length = 32) : (nm v d m ids s).size = 37 := by simp [nm, nmL, hi]
theorem nm_there {w : World} {g : Nat} {v : Value} {d m s : Int} {ids : List Int} {c' : Array Value} (h : w.heap[g]? = some (.cells (nm v d m ids s) 92 (0, 0))) (hi : ids.length = 32) (hs : c'.size = 32) : w.there g 4 c'.size := fun j hj => by
  have hl := nm_len v d m ids s hi
  refine ⟨?_, blk_frozen h _⟩
  rw [blk_cell h]
  have : 4 + j < (nm v d m ids s).size := by omega
  simp [this]
theorem setCells_grown (g : Nat) : ∀ (vs : List Value) (o : Nat) (w : World), w.grownBy (w.setCells g o vs) (some g)
  | [], _, w => World.grownBy.refl w _
  | v :: r, o, w => grown_trans' (grown_set w g o v) (setCells_grown g r (o + 1) _)
theorem step_store4 {ops : Array Oper} {o : Oper} {a : Act} {Q : Exit → Act → World → Prop} {K : Act → World → Prop} {W : World} {E : Prop} (hw : Region.wanted o (yielded ops a.tmps) = true) (ty : TypeId) (x y : Operand) (ho : o.op = .store ty x y)
    (b off : Nat) (cells : Array Value) (hx : a.eval x = .pointer (some ⟨b, off, none⟩)) (hy : a.eval y = .agg cells) (ht : W.there b off cells.size) (hi : (Try.prog.info? ty).map (·.size) = some cells.size) (h1 : cells.all (·.oneCell') = true)
    (h : K (a.put o.dst undef) (W.setCells b off cells.toList)) :
    if Region.wanted o (yielded ops a.tmps) = true then Oper.wp Try.prog o a W K Q else E := by
  rw [if_pos hw]
  exact wp_store_mid ty x y ho b off cells hx hy ht hi h1 h
theorem enter19 (vs : Array Value) (W : World) : (callFunc 19 vs).run Try.prog W = .ok (.enter 19 vs) W := enter_of Try.func19 (by rfl) (by decide +kernel) vs W
theorem sum_w (A : Option Addr) (c : Nat) (l : List Int) (w : World) (hC : (Kd.int .u8).C w A l.length l) (hc : l.length ≤ c) (hl : l.length ≤ 140737488351232) :
    Calls Try.prog 19 #[.slice A l.length c] w fun e w' => ∃ u, e = .returned u ∧ u = .agg (((sumF l).map (Value.int .u8)).toArray) ∧ Below w.heap.size w w' :=
  (sum_any A c l w hC hc hl).mono fun _ _ ⟨he, hb⟩ => ⟨_, he, rfl, hb⟩
/-- '(*sync/atomic.Int64).Add(1)'. -/
theorem add_any (a : Addr) (w : World) (hc : w.cell? a = some (.int .i64 0)) (hz : w.frozen? a = false) :
    Calls Try.prog 42 #[.pointer (some a), .int .i64 1] w fun e w' => e = .returned (.int .i64 1) ∧ w' = w.setCell a (.int .i64 1) := by
  have hadd := run_call_add (P := Try.prog) Try.func53 (by kernel_rfl) (by kernel_rfl) (by kernel_rfl) .i64 (by kernel_rfl) (y := 1) (s := 1) hc hz (by simp [go_sem]; rfl)
  go_enter Try.func42, Try.ntmps42
  go_wp2
  go_ret
  exact ⟨rfl, rfl⟩
set_option maxHeartbeats 2000000 in
set_option maxRecDepth 20000 in
/-- What is done once: the sum is made and laid, and counted. -/
theorem closure_any (pl : Addr) (g : Nat) (A : Option Addr) (c : Nat) (l : List Int) (w : World) (hp : w.cell? pl = some (.pointer (some ⟨g, 0, none⟩))) (hpg : pl.block ≠ g)
    (hN : w.heap[g]? = some (.cells (nm (.slice A l.length c) 0 1 z32 0) 92 (0, 0))) (hC : (Kd.int .u8).C w A l.length l) (hc : l.length ≤ c) (hl : l.length ≤ 140737488351232) :
    Calls Try.prog 41 #[.pointer (some pl)] w fun e w' => e = .returned (.tuple #[]) ∧ w'.heap[g]? = some (.cells (nm (.slice A l.length c) 0 1 (sumF l) 1) 92 (0, 0)) ∧ w.grownBy w' (some g) := by
  have HPL := Aside0.mk (show w.drew.cell? pl = _ from hp)
  have HPG := Aside0.mk hpg
  have HN := Aside0.mk (show w.drew.heap[g]? = _ from hN)
  have HC := Aside0.mk hC
  have HCP := Aside0.mk hc
  have HLN := Aside0.mk hl
  have HB := Aside0.mk (below_drew1 (Below.refl w.heap.size w))
  have HSZ := Aside0.mk (size23a (sumF l) (sumF_len l))
  have HONE := Aside0.mk (ints_one (sumF l))
  clear hp hpg hN hC hc hl
  go_enter Try.func41, Try.ntmps41
  go_wp2_with fail
  refine wp_region_noPanic ?_
  refine wp_region_held_drew (S := (fun W => W.cell? pl = some (.pointer (some ⟨g, 0, none⟩)) ∧ W.cell? ⟨g, 0, none⟩ = some (.slice A l.length c))) (by kernel_rfl) ?_ (fun hHeld => ?_)
  · exact ⟨HPL.out, blk_cell HN.out 0⟩
  refine wpAnyH_take (i := 0) (oi := { dst := some 1, op := Go.Op.load 45 (Go.Operand.tmp 0), type := 45, pos := "sha.go:136", after := #[], guard := none }) (v := _) rfl (by kernel_rfl) (by kernel_rfl) (by kernel_rfl) (fun _ _ _ h => h) ((show YieldsIf _ _ _ _ (.pointer (some ⟨g, 0, none⟩)) _ from Or.inl ⟨by rfl, fun w hSw => by have hc := hSw.1; go_simp⟩)) hHeld ?_
  try simp only [Act.put, List.setIfInBounds_toArray, List.set_cons_zero, List.set_cons_succ]
  refine wpAnyH_take (i := 1) (oi := { dst := some 2, op := Go.Op.load 45 (Go.Operand.tmp 0), type := 45, pos := "sha.go:136", after := #[], guard := none }) (v := _) rfl (by kernel_rfl) (by kernel_rfl) (by kernel_rfl) (fun _ _ _ h => h) ((show YieldsIf _ _ _ _ (.pointer (some ⟨g, 0, none⟩)) _ from Or.inl ⟨by rfl, fun w hSw => by have hc := hSw.1; go_simp⟩)) hHeld ?_
  try simp only [Act.put, List.setIfInBounds_toArray, List.set_cons_zero, List.set_cons_succ]
  refine wpAnyH_take (i := 2) (oi := { dst := some 3, op := Go.Op.nilCheck (Go.Operand.tmp 2), type := 0, pos := "sha.go:136", after := #[{ on := 1, ground := Go.Ground.data }], guard := none }) (v := ?_) rfl (by kernel_rfl) (by kernel_rfl) (by kernel_rfl) (fun _ _ _ h => h) (Or.inl ⟨by rfl, ?_⟩) hHeld ?_
  rotate_left
  · intro w hSw; go_simp; with_reducible rfl
  try simp only [Act.put, List.setIfInBounds_toArray, List.set_cons_zero, List.set_cons_succ]
  refine wpAnyH_take (i := 3) (oi := { dst := some 4, op := Go.Op.fieldAddr 92 (Go.Operand.tmp 3) 0, type := 0, pos := "sha.go:136", after := #[{ on := 2, ground := Go.Ground.data }], guard := none }) (v := ?_) rfl (by kernel_rfl) (by kernel_rfl) (by kernel_rfl) (fun _ _ _ h => h) (Or.inl ⟨by rfl, ?_⟩) hHeld ?_
  rotate_left
  · intro w hSw; go_simp; with_reducible rfl
  try simp only [Act.put, List.setIfInBounds_toArray, List.set_cons_zero, List.set_cons_succ]
  refine wpAnyH_take (i := 4) (oi := { dst := some 5, op := Go.Op.load 32 (Go.Operand.tmp 4), type := 32, pos := "sha.go:136", after := #[{ on := 3, ground := Go.Ground.data }], guard := none }) (v := _) rfl (by kernel_rfl) (by kernel_rfl) (by kernel_rfl) (fun _ _ _ h => h) ((show YieldsIf _ _ _ _ (.slice A l.length c) _ from Or.inl ⟨by rfl, fun w hSw => by have hc := hSw.2; go_simp⟩)) hHeld ?_
  try simp only [Act.put, List.setIfInBounds_toArray, List.set_cons_zero, List.set_cons_succ]
  refine wpAnyH_ready (rs := [5]) (by kernel_rfl) (by simp) ?_
  refine AllReadyH.cons (o := { dst := some 6, op := Go.Op.call { callee := Go.Callee.value (Go.Operand.func 19), args := #[Go.Operand.tmp 5], argTypes := #[32] }, type := 23, pos := "sha.go:136", after := #[{ on := 4, ground := Go.Ground.data }], guard := none }) rfl (fun K hK => ?_) AllReadyH.nil
  refine step_call1 (f := 19) (x := .tmp 5) (v := .slice A l.length c) (by rfl) rfl rfl enter19 (sum_w A c l _ (Kd.C_below HC.out HB.out) HCP.out HLN.out) ?_
  rintro u1 w1 ⟨rfl, hb⟩
  have HN := Aside0.mk ((hb.block _ (blk_lt HN.out)).trans HN.out)
  have HPL := Aside0.mk ((World.cell?_of_block (hb.block _ (World.block_lt_of_cell? _ _ HPL.out))).trans HPL.out)
  have HB := Aside0.mk (below_step HB.out hb)
  clear hb
  refine hK.out _ _ (⟨HPL.out, blk_cell HN.out 0⟩) (fun hHeld => ?_)
  clear hK K
  try simp only [Act.put, List.setIfInBounds_toArray, List.set_cons_zero, List.set_cons_succ]
  refine wpAnyH_take (i := 6) (oi := { dst := some 7, op := Go.Op.nilCheck (Go.Operand.tmp 1), type := 0, pos := "sha.go:136", after := #[{ on := 0, ground := Go.Ground.data }, { on := 0, ground := Go.Ground.phase }, { on := 1, ground := Go.Ground.phase }, { on := 2, ground := Go.Ground.phase }, { on := 3, ground := Go.Ground.phase }, { on := 4, ground := Go.Ground.phase }, { on := 5, ground := Go.Ground.phase }], guard := none }) (v := ?_) rfl (by kernel_rfl) (by kernel_rfl) (by kernel_rfl) (fun _ _ _ h => h) (Or.inl ⟨by rfl, ?_⟩) hHeld ?_
  rotate_left
  · intro w hSw; go_simp; with_reducible rfl
  try simp only [Act.put, List.setIfInBounds_toArray, List.set_cons_zero, List.set_cons_succ]
  refine wpAnyH_take (i := 7) (oi := { dst := some 8, op := Go.Op.fieldAddr 92 (Go.Operand.tmp 7) 2, type := 0, pos := "sha.go:136", after := #[{ on := 6, ground := Go.Ground.data }, { on := 0, ground := Go.Ground.phase }, { on := 1, ground := Go.Ground.phase }, { on := 2, ground := Go.Ground.phase }, { on := 3, ground := Go.Ground.phase }, { on := 4, ground := Go.Ground.phase }, { on := 5, ground := Go.Ground.phase }], guard := none }) (v := ?_) rfl (by kernel_rfl) (by kernel_rfl) (by kernel_rfl) (fun _ _ _ h => h) (Or.inl ⟨by rfl, ?_⟩) hHeld ?_
  rotate_left
  · intro w hSw; go_simp; with_reducible rfl
  try simp only [Act.put, List.setIfInBounds_toArray, List.set_cons_zero, List.set_cons_succ]
  refine wpAnyH_ready (rs := [8]) (by kernel_rfl) (by simp) ?_
  refine AllReadyH.cons (o := { dst := none, op := Go.Op.store 23 (Go.Operand.tmp 8) (Go.Operand.tmp 6), type := 0, pos := "sha.go:136", after := #[{ on := 7, ground := Go.Ground.data }, { on := 5, ground := Go.Ground.data }, { on := 5, ground := Go.Ground.chain }, { on := 0, ground := Go.Ground.phase }, { on := 1, ground := Go.Ground.phase }, { on := 2, ground := Go.Ground.phase }, { on := 3, ground := Go.Ground.phase }, { on := 4, ground := Go.Ground.phase }, { on := 5, ground := Go.Ground.phase }], guard := none }) rfl (fun K hK => ?_) AllReadyH.nil
  refine step_store4 ?_ 23 (.tmp 8) (.tmp 6) ?_ g 4 (((sumF l).map (Value.int .u8)).toArray) ?_ ?_ ?_ HSZ.out HONE.out ?_
  · rfl
  · rfl
  · rfl
  · rfl
  · exact nm_there HN.out rfl (by simp [sumF_len])
  have HN := Aside0.mk (nm_store HN.out rfl (sumF_len l))
  have HPL := Aside0.mk ((World.cell?_of_block (setCells_other (vs := ((sumF l).map (Value.int .u8)).toArray.toList) (o := 4) HPG.out)).trans HPL.out)
  have HG := Aside0.mk (grown_trans' (r := some g) ⟨HB.out.os, HB.out.tape, HB.out.output, HB.out.size, fun j hj _ => HB.out.block j hj⟩ (setCells_grown g ((sumF l).map (Value.int .u8)).toArray.toList 4 w1))
  generalize w1.setCells g 4 (((sumF l).map (Value.int .u8)).toArray).toList = Ws at *
  refine hK.out _ _ (⟨HPL.out, blk_cell HN.out 0⟩) (fun hHeld => ?_)
  clear hK K
  try simp only [Act.put, List.setIfInBounds_toArray, List.set_cons_zero, List.set_cons_succ]
  refine wpAnyH_done (by kernel_rfl) ?_ _
  refine NoPanic.normal ?_
  have hp2 : Ws.cell? pl = some (.pointer (some ⟨g, 0, none⟩)) := HPL.out
  have hs2 : Ws.cell? ⟨g, 36, none⟩ = some (.int .i64 0) := (nm_cell HN.out (sumF_len l)).2.2.2.1
  have hf2 : Ws.frozen? ⟨g, 36, none⟩ = false := blk_frozen HN.out 36
  go_wp2_with (first | (go_at_call 42; (with_reducible refine (add_any _ _ hs2 hf2).mono ?_); rintro e w3 ⟨rfl, rfl⟩))
  go_end0
  refine ⟨rfl, ?_, grown_trans' HG.out (grown_set _ _ _ _)⟩
  rw [heap_setCell_same Ws g _ _ 92 _ HN.out, nm_s _ _ _ _ _ _ (sumF_len l)]
/-- A new name's place. -/
def NewNm (w : World) (l : List Int) (e : Ending) (w' : World) : Prop :=
  ∃ (g : Nat) (A : Option Addr) (c : Nat), e = .returned (.pointer (some ⟨g, 0, none⟩)) ∧ w'.heap[g]? = some (.cells (nm (.slice A l.length c) 0 0 z32 0) 92 (0, 0)) ∧ (Kd.int .u8).C w' A l.length l ∧ l.length ≤ c ∧ (∀ ad, A = some ad → ad.block ≠ g) ∧ w.heap.size ≤ g ∧ Below w.heap.size w w'
set_option maxRecDepth 20000 in
theorem of_any (A : Option Addr) (c : Nat) (l : List Int) (w : World) (hr : (Kd.int .u8).C w A l.length l) (hb : l.length ≤ 140737488355328) :
    Calls Try.prog 22 #[.slice A l.length c] w (NewNm w l) := by
  have HC := Aside0.mk (clone_any A c l w hr hb)
  clear hr hb
  go_enter Try.func22, Try.ntmps22
  go_wp2_with (first | (go_at_call 37; (with_reducible refine HC.out.mono ?_); rintro e w1 ⟨v1, rfl, ho, hb1⟩; have hlt := Kd.R_lt ho; obtain ⟨A1, c1, rfl, hc1, hC1⟩ := Kd.R_reads ho; have HLT := Aside0.mk hlt; have HC1 := Aside0.mk hC1; have HB := Aside0.mk hb1; have HCP := Aside0.mk hc1; clear hlt ho hb1 hC1 hc1))
  go_ret
  refine ⟨w1.heap.size, A1, c1, rfl, heap_alloc_new w1 _, Kd.C_below HC1.out (below_alloc (Below.refl _ _) _), HCP.out, fun ad h => ?_, HB.out.size, below_alloc HB.out _⟩
  subst h
  exact Nat.ne_of_lt (HLT.out _ rfl)
end Go.Proofs.Ytcpcellocnojcaa

import Derived.Test.YtighpoelpedneaaRTxt
import Derived.Deep.MidRow
namespace Go.Proofs.Ytighpoelpedneaa
open Go Go.RowKit Go.Proofs.YtighpoelpedneaaW.PrintWords
set_option linter.unusedVariables false
set_option linter.unusedSimpArgs false

theorem setCells_heap (g : Nat) (t : TypeId) (fr : Nat × Nat) : ∀ (vs : List Value) (o : Nat) (w : World) (old : Array Value), w.heap[g]? = some (.cells old t fr) → ∃ cs : Array Value, (w.setCells g o vs).heap[g]? = some (.cells cs t fr) ∧ cs.size = old.size
  | [], _, w, old, h => ⟨old, h, rfl⟩
  | v :: r, o, w, old, h => by
    have h1 : (w.setCell ⟨g, o, none⟩ v).heap[g]? = some (.cells (old.setIfInBounds o v) t fr) := by
      simp [World.setCell, Array.getElem?_modify, h]
    obtain ⟨cs, h2, h3⟩ := setCells_heap g t fr r (o + 1) _ _ h1
    exact ⟨cs, h2, by rw [h3]; simp⟩
/-- A whole row written. -/
theorem setCells_row {w : World} {g : Nat} {old : Array Value} {t : TypeId} {fr : Nat × Nat} (h : w.heap[g]? = some (.cells old t fr)) (vs : List Value) (hs : vs.length = old.size) : (w.setCells g 0 vs).heap[g]? = some (.cells vs.toArray t fr) := by
  obtain ⟨cs, h1, h2⟩ := setCells_heap g t fr vs 0 w old h
  have : cs = vs.toArray := by
    apply Array.ext
    · simp [h2, hs]
    · intro i hi hi'
      have hi2 : i < vs.length := by simpa using hi'
      have hc := World.cell?_setCells_in g vs 0 w (fun j hj => by
        rw [cell_of_row w g _ old t fr h]
        have : j < old.size := by omega
        simp [this]) i hi2
      rw [cell_of_row _ g _ cs t fr h1, Nat.zero_add] at hc
      rw [Array.getElem?_eq_getElem hi] at hc
      injection hc with hc
  rw [h1, this]
theorem setCells_grown (g : Nat) : ∀ (vs : List Value) (o : Nat) (w : World), w.grownBy (w.setCells g o vs) (some g)
  | [], _, w => World.grownBy.refl w _
  | v :: r, o, w => grown_trans' (grown_set w g o v) (setCells_grown g r (o + 1) _)

section
variable {ops : Array Oper} {rest : List Oper} {o : Oper} {a : Act} {Q : Exit → Act → World → Prop} {K : Act → World → Prop}
/-- copy(dst, src) in a region that draws its order: by its run. -/
theorem step_copy {W w1 : World} {E : Prop} {x y : Operand} {vx vy v : Value} (hw : Region.wanted o (yielded ops a.tmps) = true)
    (ho : o.op = .call { callee := .builtin .copy, args := #[x, y], argTypes := #[22, 22] }) (hx : a.eval x = vx) (hy : a.eval y = vy)
    (hr : ∀ ty, (Builtin.copy_ #[22, 22] ty #[vx, vy]).run Try.prog W = .ok v w1) (h : K (a.put o.dst v) w1) :
    if Region.wanted o (yielded ops a.tmps) = true then Oper.wp Try.prog o a W K Q else E := by
  rw [if_pos hw]
  unfold Oper.wp execOp
  simp only [ho, resolve, invoke, builtin, Sem.run_bind, Sem.run_pure, Result.andThen_ok, List.map_toArray, List.map_cons, List.map_nil, hx, hy, hr]
  exact h
end
theorem enter41 (vs : Array Value) (W : World) : (callFunc 41 vs).run Try.prog W = .ok (.enter 41 vs) W := enter_of Try.func41 (by rfl) (by decide +kernel) vs W
theorem info5s : (Try.prog.info? 5).map (·.size) = some 1 := by kernel_rfl
theorem size32 : (Try.prog.info? 32).map (·.size) = some 32 := by kernel_rfl
/-- take, as a step of a drawn region wants it -/
theorem take_ok_v (w0 w : World) (g : Nat) (l : List Int) (n : Nat) (h : Rd w0 w g l false) (hn : n ≤ l.length) :
    Calls Try.prog 41 #[.pointer (some ⟨g, 0, none⟩), .int .i64 n] w fun e w' => ∃ u, e = .returned u ∧ ∃ A c, u = .slice A n c ∧ (Kd.int .u8).C w' A n (l.take n) ∧ (0 < n → A.isNone = false) ∧ (∀ ad, A = some ad → ad.block < g) ∧ Rd w0 w' g (l.drop n) false ∧ w.grownBy w' (some g) :=
  (take_ok w0 w g l n h hn).mono fun _ _ ⟨A, c, he, h1, h2, h3, h4, h5⟩ => ⟨_, he, A, c, rfl, h1, h2, h3, h4, h5⟩
theorem take_no_v (w0 w : World) (g : Nat) (l : List Int) (bad : Bool) (n : Int) (h : Rd w0 w g l bad) (hn : bad = true ∨ l.length < n) :
    Calls Try.prog 41 #[.pointer (some ⟨g, 0, none⟩), .int .i64 n] w fun e w' => ∃ u, e = .returned u ∧ u = .slice none 0 0 ∧ Rd w0 w' g [] true ∧ w.grownBy w' (some g) :=
  (take_no w0 w g l bad n h hn).mono fun _ _ ⟨he, h4, h5⟩ => ⟨_, he, rfl, h4, h5⟩

def zeros32 : List Int := List.replicate 32 0
/-- An ID read. -/
def idR (l : List Int) (bad : Bool) : List Int × List Int × Bool := if bad = true ∨ l.length < 32 then (zeros32, [], true) else (l.take 32, l.drop 32, false)
def RdArr (w0 w : World) (g : Nat) (r : List Int × List Int × Bool) (e : Ending) (w' : World) : Prop :=
  ∃ cs : List Value, e = .returned (.agg cs.toArray) ∧ cs = r.1.map (Value.int .u8) ∧ r.1.length = 32 ∧ Rd w0 w' g r.2.1 r.2.2 ∧ w.grownBy w' (some g)
theorem Rd.alloc {w0 w : World} {g : Nat} {l : List Int} {bad : Bool} (h : Rd w0 w g l bad) (o : Obj) : Rd w0 (w.alloc o) g l bad := by
  obtain ⟨⟨A, c, hb, hC, hc, hn⟩, h2, h3⟩ := h
  exact ⟨⟨A, c, (Below.heap_alloc w o g (blk_lt hb)).trans hb, Kd.C_below hC (below_alloc (Below.refl _ _) _), hc, hn⟩, h2, below_alloc h3 o⟩
theorem Rd.drew {w0 w : World} {g : Nat} {l : List Int} {bad : Bool} (h : Rd w0 w g l bad) : Rd w0 w.drew g l bad := by
  obtain ⟨⟨A, c, hb, hC, hc, hn⟩, h2, h3⟩ := h
  exact ⟨⟨A, c, hb, Kd.C_below hC (below_drew1 (Below.refl _ _)), hc, hn⟩, h2, below_drew1 h3⟩
theorem grown_drew {a w : World} {row : Option Nat} (h : a.grownBy w row) : a.grownBy w.drew row := ⟨h.os, h.tape, h.output, h.size, h.block⟩
theorem range_blk {w : World} {g : Nat} {cs : List Value} {t : TypeId} (h : w.heap[g]? = some (.cells cs.toArray t (0, 0))) : w.rangeAt g 0 cs := fun j v hv => by
  rw [cell_of_row _ _ _ _ t (0, 0) h, Nat.zero_add]
  simpa using hv
theorem there_blk {w : World} {g : Nat} {cs : List Value} {t : TypeId} (h : w.heap[g]? = some (.cells cs.toArray t (0, 0))) : w.there g 0 cs.toArray.size := fun j hj => by
  have hj' : j < cs.length := by simpa using hj
  exact ⟨by rw [cell_of_row _ _ _ _ t (0, 0) h, Nat.zero_add]; simp [hj'], by simp [World.frozen?, h]⟩
theorem nums_one (l : List Int) : ∀ v ∈ l.map (Value.int .u8), v.oneCell' = true := fun v hv => by
  obtain ⟨x, _, rfl⟩ := List.mem_map.1 hv
  rfl
/-- copy of bytes onto a whole row -/
theorem run_copy_row {w : World} {g n : Nat} {old : Array Value} {t : TypeId} (ty : TypeId) (hg : w.heap[g]? = some (.cells old t (0, 0))) (hs : old.size = n) {ad : Addr} {c : Nat} {l : List Int}
    (hC : (Kd.int .u8).C w (some ad) n l) (hl : l.length = n) :
    (Builtin.copy_ #[22, 22] ty #[.slice (some ⟨g, 0, none⟩) n n, .slice (some ad) n c]).run Try.prog w = .ok (goInt n) (w.setCells g 0 (l.map (Value.int .u8))) := by
  have h := run_copy_cells (P := Try.prog) w 22 22 ty 5 g 0 n n ad n c (l.map (Value.int .u8)) Try.underlying22 info5s (by simp [hl])
    (fun j v hv => by
      have hj : j < l.length := by
        rcases Nat.lt_or_ge j l.length with h | h
        · exact h
        · simp [List.getElem?_eq_none h] at hv
      obtain ⟨ad', e, hx⟩ := at_nat hC j (by omega)
      injection e with e
      subst e
      rw [hx, ← hv]
      simp [rd, hj])
    (fun j hj => by rw [cell_of_row _ _ _ _ t (0, 0) hg, Nat.zero_add]; have : j < old.size := (by simpa [hl, hs] using hj); simp [this])
    (fun j hj => by simp [World.frozen?, hg]) (nums_one l)
  rw [h]
  simp [hl]
/-- What a reader's state is behind a row written elsewhere. -/
theorem Rd.setCells {w0 w : World} {g g' : Nat} {l : List Int} {bad : Bool} (h : Rd w0 w g l bad) (hne : g < g') (vs : List Value) : Rd w0 (w.setCells g' 0 vs) g l bad := by
  obtain ⟨⟨A, c, hb, hC, hc, hn⟩, h2, h3⟩ := h
  have hg := setCells_grown g' vs 0 w
  refine ⟨⟨A, c, (hg.block g (blk_lt hb) (fun e => by injection e with e; omega)).trans hb, ?_, hc, hn⟩, h2, h3.grown hg (by have := blk_lt hb; omega) (fun k hk => by injection hk with hk; omega)⟩
  have hr : ReadsOf (Value.int .u8) (0 : Int) w A l.length l := Kd.reads_of_C hC
  refine Kd.C_of_reads (d := (0 : Int)) (h1 := fun _ => rfl) ⟨hr.1, hr.2.1, fun hn' => ?_⟩
  obtain ⟨ad, e, hcc⟩ := hr.2.2 hn'
  refine ⟨ad, e, fun j hj => ?_⟩
  have hlt := hn ad e
  have hcell := hcc j hj
  rw [World.cell?_of_block (w := w) (hg.block (ad.add j).block (World.block_lt_of_cell? w _ hcell) (fun e => by rw [add_block] at e; injection e with e; omega))]
  exact hcell
theorem rdArr_mk {w0 w w2 : World} {g gi : Nat} {r : List Int × List Int × Bool} (hl : r.1.length = 32) (hb : w2.heap[gi]? = some (.cells (r.1.map (Value.int .u8)).toArray 32 (0, 0))) (hR : Rd w0 w2 g r.2.1 r.2.2) (hG : w.grownBy w2 (some g)) (hlt : w.heap.size ≤ gi) (hgi : g < gi) :
    RdArr w0 w g r (.returned (.agg (r.1.map (Value.int .u8)).toArray)) (w2.setCells gi 0 (r.1.map (Value.int .u8))) := by
  have hg := setCells_grown gi (r.1.map (Value.int .u8)) 0 w2
  refine ⟨_, rfl, rfl, hl, hR.setCells hgi _, ?_⟩
  exact ⟨hg.os.trans hG.os, hg.tape.trans hG.tape, hg.output.trans hG.output, Nat.le_trans hG.size hg.size, fun k hk hne => (hg.block k (Nat.lt_of_lt_of_le hk hG.size) (fun e => by injection e with e; omega)).trans (hG.block k hk hne)⟩
theorem grown_other {a b c : World} {row : Option Nat} {g : Nat} (h : a.grownBy b row) (k : b.grownBy c (some g)) (hg : a.heap.size ≤ g) : a.grownBy c row :=
  ⟨k.os.trans h.os, k.tape.trans h.tape, k.output.trans h.output, Nat.le_trans h.size k.size, fun i hi hne => (k.block i (Nat.lt_of_lt_of_le hi h.size) (fun e => by injection e with e; omega)).trans (h.block i hi hne)⟩
theorem rdId_any (w0 w : World) (g : Nat) (l : List Int) (bad : Bool) (h : Rd w0 w g l bad) :
    Calls Try.prog 31 #[.pointer (some ⟨g, 0, none⟩)] w (RdArr w0 w g (idR l bad)) := by
  have H := Aside0.mk h
  by_cases hbad : bad = true ∨ l.length < 32
  · have HT := Aside0.mk (show idR l bad = _ from if_pos hbad)
    have HBB := Aside0.mk hbad
    clear hbad h
    go_enter Try.func31, Try.ntmps31
    go_wp2_with fail
    generalize hW : w.alloc _ = W1
    have hblk : W1.heap[w.heap.size]? = some (.cells (zeros32.map (Value.int .u8)).toArray 32 (0, 0)) := by rw [← hW]; exact heap_alloc_new w _
    have hR1 : Rd w0 W1 g l bad := by rw [← hW]; exact H.out.alloc _
    have hG1 : w.grownBy W1 (some g) := by rw [← hW]; exact World.grownBy_alloc w _ _
    have HBK := Aside0.mk hblk
    have HR1 := Aside0.mk hR1
    have HG1 := Aside0.mk hG1
    have HLT := Aside0.mk (show g < w.heap.size by obtain ⟨A, c, hb, _⟩ := H.out.ex; exact blk_lt hb)
    have HNE := Aside0.mk (Nat.ne_of_lt HLT.out)
    clear hW hblk hR1 hG1
    refine wp_region_noPanic ?_
    refine wp_region_held_drew (S := (fun _ => True)) (by kernel_rfl) ?_ (fun hHeld => ?_)
    · exact trivial
    refine wpAnyH_take (i := 0) (oi := { dst := some 3, op := Go.Op.slice 32 (Go.Operand.tmp 2) none none none, type := 22, pos := "enc.go:86", after := #[], guard := none }) (v := ?_) rfl (by kernel_rfl) (by kernel_rfl) (by kernel_rfl) (fun _ _ _ h => h) (Or.inl ⟨by rfl, ?_⟩) hHeld ?_
    rotate_left
    · intro w hSw; go_simp; with_reducible rfl
    try simp only [Act.put, List.setIfInBounds_toArray, List.set_cons_zero, List.set_cons_succ]
    refine wpAnyH_take (i := 1) (oi := { dst := some 4, op := Go.Op.move (Go.Operand.tmp 0), type := 43, pos := "enc.go:86", after := #[], guard := none }) (v := ?_) rfl (by kernel_rfl) (by kernel_rfl) (by kernel_rfl) (fun _ _ _ h => h) (Or.inl ⟨by rfl, ?_⟩) hHeld ?_
    rotate_left
    · intro w hSw; go_simp; with_reducible rfl
    try simp only [Act.put, List.setIfInBounds_toArray, List.set_cons_zero, List.set_cons_succ]
    refine wpAnyH_ready (rs := [2]) (by kernel_rfl) (by simp) ?_
    refine AllReadyH.cons (o := { dst := some 5, op := Go.Op.call { callee := Go.Callee.value (Go.Operand.func 41), args := #[Go.Operand.tmp 4, Go.Operand.const (Go.Value.int Go.IntKind.i64 32)], argTypes := #[43, 3] }, type := 22, pos := "enc.go:86", after := #[{ on := 1, ground := Go.Ground.data }], guard := none }) rfl (fun K hK => ?_) AllReadyH.nil
    refine step_call2 (f := 41) (x := .tmp 4) (y := .const (.int .i64 32)) (v := .pointer (some ⟨g, 0, none⟩)) (u := .int .i64 32) (by rfl) rfl rfl rfl enter41 (take_no_v w0 _ g l bad 32 (HR1.out.drew) (by rcases HBB.out with h | h; exact .inl h; exact .inr (by omega))) ?_
    rintro u2 w2 ⟨rfl, hr, hg⟩
    have HR2 := Aside0.mk hr
    have HG2 := Aside0.mk (grown_trans' (grown_drew HG1.out) hg)
    have HBK2 := Aside0.mk (show w2.heap[w.heap.size]? = some (.cells (zeros32.map (Value.int .u8)).toArray 32 (0, 0)) from (hg.block _ (blk_lt HBK.out) (fun e => HNE.out (by injection e with e; exact e.symm))).trans HBK.out)
    clear hr hg
    refine hK.out _ _ (trivial) (fun hHeld => ?_)
    clear hK K
    try simp only [Act.put, List.setIfInBounds_toArray, List.set_cons_zero, List.set_cons_succ]
    refine wpAnyH_ready (rs := [3]) (by kernel_rfl) (by simp) ?_
    refine AllReadyH.cons (o := { dst := some 6, op := Go.Op.call { callee := Go.Callee.builtin Go.Builtin.copy, args := #[Go.Operand.tmp 3, Go.Operand.tmp 5], argTypes := #[22, 22] }, type := 3, pos := "enc.go:86", after := #[{ on := 0, ground := Go.Ground.data }, { on := 2, ground := Go.Ground.data }, { on := 2, ground := Go.Ground.chain }], guard := none }) rfl (fun K hK => ?_) AllReadyH.nil
    refine step_copy (x := .tmp 3) (y := .tmp 5) (by rfl) rfl rfl rfl (fun ty => run_copy_none w2 22 22 ty 5 (some ⟨w.heap.size, 0, none⟩) none 32 32 0 0 Try.underlying22 info5s rfl) ?_
    refine hK.out _ _ (trivial) (fun hHeld => ?_)
    clear hK K
    try simp only [Act.put, List.setIfInBounds_toArray, List.set_cons_zero, List.set_cons_succ]
    refine wpAnyH_done (by kernel_rfl) ?_ _
    refine NoPanic.normal ?_
    have h32 := Try.underlying32
    have HI := Aside0.mk (show (Try.prog.info? 32).map (·.size) = some (zeros32.map (Value.int .u8)).length from size32)
    go_wp2_with (first
      | (refine wpList_load_mid rfl 32 (.tmp 2) rfl w.heap.size 0 rfl (zeros32.map (Value.int .u8)) _ (range_blk HBK2.out) h32 rfl HI.out ?_)
      | (refine wpList_store_mid rfl 32 (.tmp 2) (.tmp 7) rfl w.heap.size 0 (zeros32.map (Value.int .u8)).toArray rfl rfl (there_blk HBK2.out) (by simpa using HI.out) (all_oneCell_toArray (nums_one _)) ?_))
    have hfin := setCells_row HBK2.out (zeros32.map (Value.int .u8)) (by simp)
    exact bodyPost_ret (v := .agg (zeros32.map (Value.int .u8)).toArray) (results_cell_row rfl _ _ w.heap.size 32 _ (0, 0) _ rfl hfin h32 rfl (by simpa using HI.out)) rfl (by
      have h := rdArr_mk (r := (zeros32, [], true)) rfl HBK2.out HR2.out HG2.out (Nat.le_refl _) HLT.out
      rw [HT.out]
      exact h)
  · have HT := Aside0.mk (show idR l bad = _ from if_neg hbad)
    have hbf : bad = false := by cases bad with | true => exact absurd (.inl rfl) hbad | false => rfl
    subst hbf
    have HLN := Aside0.mk (show 32 ≤ l.length by rcases Nat.lt_or_ge l.length 32 with h | h; exact absurd (.inr h) hbad; exact h)
    have HL32 := Aside0.mk (show (l.take 32).length = 32 by rw [List.length_take, Nat.min_eq_left HLN.out])
    clear hbad h
    go_enter Try.func31, Try.ntmps31
    go_wp2_with fail
    generalize hW : w.alloc _ = W1
    have hblk : W1.heap[w.heap.size]? = some (.cells (zeros32.map (Value.int .u8)).toArray 32 (0, 0)) := by rw [← hW]; exact heap_alloc_new w _
    have hR1 : Rd w0 W1 g l false := by rw [← hW]; exact H.out.alloc _
    have hG1 : w.grownBy W1 (some g) := by rw [← hW]; exact World.grownBy_alloc w _ _
    have HBK := Aside0.mk hblk
    have HR1 := Aside0.mk hR1
    have HG1 := Aside0.mk hG1
    have HLT := Aside0.mk (show g < w.heap.size by obtain ⟨A, c, hb, _⟩ := H.out.ex; exact blk_lt hb)
    have HNE := Aside0.mk (Nat.ne_of_lt HLT.out)
    clear hW hblk hR1 hG1
    refine wp_region_noPanic ?_
    refine wp_region_held_drew (S := (fun _ => True)) (by kernel_rfl) ?_ (fun hHeld => ?_)
    · exact trivial
    refine wpAnyH_take (i := 0) (oi := { dst := some 3, op := Go.Op.slice 32 (Go.Operand.tmp 2) none none none, type := 22, pos := "enc.go:86", after := #[], guard := none }) (v := ?_) rfl (by kernel_rfl) (by kernel_rfl) (by kernel_rfl) (fun _ _ _ h => h) (Or.inl ⟨by rfl, ?_⟩) hHeld ?_
    rotate_left
    · intro w hSw; go_simp; with_reducible rfl
    try simp only [Act.put, List.setIfInBounds_toArray, List.set_cons_zero, List.set_cons_succ]
    refine wpAnyH_take (i := 1) (oi := { dst := some 4, op := Go.Op.move (Go.Operand.tmp 0), type := 43, pos := "enc.go:86", after := #[], guard := none }) (v := ?_) rfl (by kernel_rfl) (by kernel_rfl) (by kernel_rfl) (fun _ _ _ h => h) (Or.inl ⟨by rfl, ?_⟩) hHeld ?_
    rotate_left
    · intro w hSw; go_simp; with_reducible rfl
    try simp only [Act.put, List.setIfInBounds_toArray, List.set_cons_zero, List.set_cons_succ]
    refine wpAnyH_ready (rs := [2]) (by kernel_rfl) (by simp) ?_
    refine AllReadyH.cons (o := { dst := some 5, op := Go.Op.call { callee := Go.Callee.value (Go.Operand.func 41), args := #[Go.Operand.tmp 4, Go.Operand.const (Go.Value.int Go.IntKind.i64 32)], argTypes := #[43, 3] }, type := 22, pos := "enc.go:86", after := #[{ on := 1, ground := Go.Ground.data }], guard := none }) rfl (fun K hK => ?_) AllReadyH.nil
    refine step_call2 (f := 41) (x := .tmp 4) (y := .const (.int .i64 32)) (v := .pointer (some ⟨g, 0, none⟩)) (u := .int .i64 32) (by rfl) rfl rfl rfl enter41 (take_ok_v w0 _ g l 32 (HR1.out.drew) HLN.out) ?_
    rintro u2 w2 ⟨A, c, rfl, hc, hn, hne, hr, hg⟩
    have hn := hn (by decide)
    obtain ⟨ad, rfl⟩ : ∃ ad, A = some ad := (by cases A with | none => cases hn | some a => exact ⟨a, rfl⟩)
    have HR2 := Aside0.mk hr
    have HC2 := Aside0.mk hc
    have HG2 := Aside0.mk (grown_trans' (grown_drew HG1.out) hg)
    have HBK2 := Aside0.mk (show w2.heap[w.heap.size]? = some (.cells (zeros32.map (Value.int .u8)).toArray 32 (0, 0)) from (hg.block _ (blk_lt HBK.out) (fun e => HNE.out (by injection e with e; exact e.symm))).trans HBK.out)
    clear hr hg hc hn hne
    refine hK.out _ _ (trivial) (fun hHeld => ?_)
    clear hK K
    try simp only [Act.put, List.setIfInBounds_toArray, List.set_cons_zero, List.set_cons_succ]
    refine wpAnyH_ready (rs := [3]) (by kernel_rfl) (by simp) ?_
    refine AllReadyH.cons (o := { dst := some 6, op := Go.Op.call { callee := Go.Callee.builtin Go.Builtin.copy, args := #[Go.Operand.tmp 3, Go.Operand.tmp 5], argTypes := #[22, 22] }, type := 3, pos := "enc.go:86", after := #[{ on := 0, ground := Go.Ground.data }, { on := 2, ground := Go.Ground.data }, { on := 2, ground := Go.Ground.chain }], guard := none }) rfl (fun K hK => ?_) AllReadyH.nil
    refine step_copy (x := .tmp 3) (y := .tmp 5) (by rfl) rfl rfl rfl (fun ty => run_copy_row ty HBK2.out rfl HC2.out HL32.out) ?_
    refine hK.out _ _ (trivial) (fun hHeld => ?_)
    clear hK K
    try simp only [Act.put, List.setIfInBounds_toArray, List.set_cons_zero, List.set_cons_succ]
    refine wpAnyH_done (by kernel_rfl) ?_ _
    refine NoPanic.normal ?_
    have hbk3 := setCells_row HBK2.out ((l.take 32).map (Value.int .u8)) (by rw [List.length_map, HL32.out]; rfl)
    have hr3 := HR2.out.setCells HLT.out ((l.take 32).map (Value.int .u8))
    have hg3 := grown_other HG2.out (setCells_grown w.heap.size ((l.take 32).map (Value.int .u8)) 0 w2) (Nat.le_refl _)
    generalize hw3 : w2.setCells _ _ _ = w3
    have e3 : w3 = w2.setCells w.heap.size 0 ((l.take 32).map (Value.int .u8)) := by rw [← hw3]
    rw [← e3] at hbk3 hr3 hg3
    have HBK3 := Aside0.mk hbk3
    have HR3 := Aside0.mk hr3
    have HG3 := Aside0.mk hg3
    clear hw3 e3 hbk3 hr3 hg3
    obtain ⟨q, hq⟩ : ∃ q, l.take 32 = q := ⟨_, rfl⟩
    rw [hq] at HBK3 HL32 HT
    clear hq HC2
    have h32 := Try.underlying32
    have HI := Aside0.mk (show (Try.prog.info? 32).map (·.size) = some (q.map (Value.int .u8)).length from by rw [List.length_map, HL32.out]; exact size32)
    go_wp2_with (first
      | (refine wpList_load_mid rfl 32 (.tmp 2) rfl w.heap.size 0 rfl (q.map (Value.int .u8)) _ (range_blk HBK3.out) h32 rfl HI.out ?_)
      | (refine wpList_store_mid rfl 32 (.tmp 2) (.tmp 7) rfl w.heap.size 0 (q.map (Value.int .u8)).toArray rfl rfl (there_blk HBK3.out) (by simpa using HI.out) (all_oneCell_toArray (nums_one _)) ?_))
    have hfin := setCells_row HBK3.out (q.map (Value.int .u8)) (by simp)
    exact bodyPost_ret (v := .agg (q.map (Value.int .u8)).toArray) (results_cell_row rfl _ _ w.heap.size 32 _ (0, 0) _ rfl hfin h32 rfl (by simpa using HI.out)) rfl (by
      have h := rdArr_mk (r := (q, l.drop 32, false)) HL32.out HBK3.out HR3.out HG3.out (Nat.le_refl _) HLT.out
      rw [HT.out]
      exact h)
end Go.Proofs.Ytighpoelpedneaa

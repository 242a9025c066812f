import Derived.Test.YtighpoelpedneaaEqArr
import Derived.Deep.WholeRow
import Derived.Laws.ResultCell
import Derived.Laws.CopyOwn
namespace Go.Proofs.Ytighpoelpedneaa
open Go Go.RowKit Go.Proofs.YtighpoelpedneaaW.PrintWords
set_option linter.unusedVariables false
set_option linter.unusedSimpArgs false

theorem range_cs {w : World} {g : Nat} {cs : Array Value} {t : TypeId} {fr : Nat × Nat} (h : w.heap[g]? = some (.cells cs t fr)) : w.rangeAt g 0 cs.toList := fun j v hv => by
  rw [cell_of_row _ _ _ _ t fr h, Nat.zero_add]
  simpa using hv
theorem there_cs {w : World} {g : Nat} {cs c' : Array Value} {t : TypeId} (h : w.heap[g]? = some (.cells cs t (0, 0))) (hs : cs.size = c'.size) : w.there g 0 c'.size := fun j hj => by
  have hj' : j < cs.size := by omega
  exact ⟨by rw [cell_of_row _ _ _ _ t (0, 0) h, Nat.zero_add]; simp [hj'], by simp [World.frozen?, h]⟩
/-- A guarded load of a whole array. -/
theorem wpList_load_g {ops : Array Oper} {rest : List Oper} {op : Oper} {a : Act} {w : World} {Q : Exit → Act → World → Prop} (hw : Region.wanted op (yielded ops a.tmps) = true) (ty : TypeId) (x : Operand) (ho : op.op = .load ty x)
    (b o : Nat) (hx : a.eval x = .pointer (some ⟨b, o, none⟩)) (cs : List Value) (d : TypeDesc) (hc : w.rangeAt b o cs)
    (hu : Try.prog.underlying ty = some d) (hd : d.isRow = true) (hi : (Try.prog.info? ty).map (·.size) = some cs.length)
    (h : wpList Try.prog ops Q rest (a.put op.dst (.agg cs.toArray)) w) : wpList Try.prog ops Q (op :: rest) a w :=
  wpList_step fun K hK => by
    rw [if_pos hw]
    exact wp_load_mid ty x ho b o hx cs d hc hu hd hi (hK _ _ h)
/-- .. of an array, as it lies. -/
theorem wpList_load_a {ops : Array Oper} {rest : List Oper} {op : Oper} {a : Act} {w : World} {Q : Exit → Act → World → Prop} (hw : Region.wanted op (yielded ops a.tmps) = true) (ty : TypeId) (x : Operand) (ho : op.op = .load ty x)
    (b : Nat) (hx : a.eval x = .pointer (some ⟨b, 0, none⟩)) (cs : Array Value) (n : Nat) (e : TypeId) (hc : w.rangeAt b 0 cs.toList)
    (hu : Try.prog.underlying ty = some (.array n e)) (hi : (Try.prog.info? ty).map (·.size) = some cs.size)
    (h : wpList Try.prog ops Q rest (a.put op.dst (.agg cs)) w) : wpList Try.prog ops Q (op :: rest) a w :=
  wpList_load_g hw ty x ho b 0 hx cs.toList _ hc hu rfl (by rw [hi, Array.length_toList]) (by rw [Array.toArray_toList (xs := cs)]; exact h)
/-- An array stored into the block that was made last. -/
theorem wpList_store_new {ops : Array Oper} {rest : List Oper} {op : Oper} {a : Act} {W : World} {Q : Exit → Act → World → Prop} (hgd : op.guard = none) (ty : TypeId) (x y : Operand) (ho : op.op = .store ty x y)
    (c c' : Array Value) (hx : a.eval x = .pointer (some ⟨W.heap.size, 0, none⟩)) (hy : a.eval y = .agg c') (hi : (Try.prog.info? ty).map (·.size) = some c'.size) (hs : c.size = c'.size) (h1 : c'.all (·.oneCell') = true)
    (h : wpList Try.prog ops Q rest (a.put op.dst undef) (W.alloc (.cells c' ty))) : wpList Try.prog ops Q (op :: rest) a (W.alloc (.cells c ty)) :=
  wpList_plain hgd fun K hK => by
    unfold Oper.wp execOp
    simp only [ho, hx, hy, Sem.run_bind, Sem.run_pure, Result.andThen_ok, run_storeAt_new W ty c c' hi hs h1]
    exact hK _ _ h
/-! The same for a walk's arms: 'with_reducible refine', what is to be shown by 'rfl' behind it. -/
theorem arm_store_new {ops : Array Oper} {rest : List Oper} {a : Act} {W : World} {Q : Exit → Act → World → Prop} {ty t0 : TypeId} {x y : Operand} {ps : String} {af : Array Edge} {c c' : Array Value}
    (hx : a.eval x = .pointer (some ⟨W.heap.size, 0, none⟩)) (hy : a.eval y = .agg c') (hi : (Try.prog.info? ty).map (·.size) = some c'.size) (hs : c.size = c'.size) (h1 : c'.all (·.oneCell') = true)
    (h : wpList Try.prog ops Q rest (a.put none undef) (W.alloc (.cells c' ty))) :
    wpList Try.prog ops Q ({ dst := none, op := .store ty x y, type := t0, pos := ps, after := af, guard := none } :: rest) a (W.alloc (.cells c ty)) :=
  wpList_store_new (op := { dst := none, op := .store ty x y, type := t0, pos := ps, after := af, guard := none }) rfl ty x y rfl c c' hx hy hi hs h1 h
theorem arm_load {ops : Array Oper} {rest : List Oper} {a : Act} {w : World} {Q : Exit → Act → World → Prop} {ty t0 : TypeId} {x : Operand} {d : Option Tmp} {ps : String} {af : Array Edge} {gd : Option (Nat × Bool)} {cs : Array Value} {n b : Nat} {e : TypeId}
    (hw : Region.wanted { dst := d, op := .load ty x, type := t0, pos := ps, after := af, guard := gd } (yielded ops a.tmps) = true)
    (hx : a.eval x = .pointer (some ⟨b, 0, none⟩)) (hc : w.rangeAt b 0 cs.toList)
    (hu : Try.prog.underlying ty = some (.array n e)) (hi : (Try.prog.info? ty).map (·.size) = some cs.size)
    (h : wpList Try.prog ops Q rest (a.put d (.agg cs)) w) :
    wpList Try.prog ops Q ({ dst := d, op := .load ty x, type := t0, pos := ps, after := af, guard := gd } :: rest) a w :=
  wpList_load_a (op := { dst := d, op := .load ty x, type := t0, pos := ps, after := af, guard := gd }) hw ty x rfl b hx cs n e hc hu hi h
theorem arm_store {ops : Array Oper} {rest : List Oper} {a : Act} {W : World} {Q : Exit → Act → World → Prop} {ty t0 : TypeId} {x y : Operand} {ps : String} {af : Array Edge} {c' : Array Value} {b : Nat}
    (hx : a.eval x = .pointer (some ⟨b, 0, none⟩)) (hy : a.eval y = .agg c') (ht : W.there b 0 c'.size) (hi : (Try.prog.info? ty).map (·.size) = some c'.size) (h1 : c'.all (·.oneCell') = true)
    (h : wpList Try.prog ops Q rest (a.put none undef) (W.setCells b 0 c'.toList)) :
    wpList Try.prog ops Q ({ dst := none, op := .store ty x y, type := t0, pos := ps, after := af, guard := none } :: rest) a W :=
  wpList_store_mid (op := { dst := none, op := .store ty x y, type := t0, pos := ps, after := af, guard := none }) rfl ty x y rfl b 0 c' hx hy ht hi h1 h
theorem below_setCells {B g : Nat} {a : World} (hB : B ≤ g) : ∀ (vs : List Value) (o : Nat) (w : World), Below B a w → Below B a (w.setCells g o vs)
  | [], _, w, h => h
  | v :: r, o, w, h => below_setCells hB r (o + 1) _ (h.setCell (p := ⟨g, o, none⟩) hB v)
theorem setCells_other {g k : Nat} (hk : k ≠ g) : ∀ {vs : List Value} {o : Nat} {w : World}, (w.setCells g o vs).heap[k]? = w.heap[k]? := by
  intro vs
  induction vs with
  | nil => intro o w; rfl
  | cons v r ih => intro o w; exact (ih (o := o + 1)).trans (heap_setCell_other w ⟨g, o, none⟩ k v hk)

theorem range_below {B : Nat} {w w' : World} {g o : Nat} {cs : List Value} (h : Below B w w') (hg : g < B) (hr : w.rangeAt g o cs) : w'.rangeAt g o cs := fun j v hv =>
  (World.cell?_of_block (a := ⟨g, o + j, none⟩) (h.block g hg)).trans (hr j v hv)
theorem step_call0 {ops : Array Oper} {o : Oper} {a : Act} {Q : Exit → Act → World → Prop} {K : Act → World → Prop} {W : World} {E : Prop} {f : FuncId} {tys : Array TypeId} {R : Value → World → Prop} (hw : Region.wanted o (yielded ops a.tmps) = true)
    (ho : o.op = .call { callee := .value (.func f), args := #[], argTypes := tys })
    (hcf : ∀ vs W, (callFunc f vs).run Try.prog W = .ok (.enter f vs) W)
    (hc : Calls Try.prog f #[] W fun e w' => ∃ u, e = .returned u ∧ R u w')
    (h : ∀ u w1, R u w1 → K (a.put o.dst u) w1) :
    if Region.wanted o (yielded ops a.tmps) = true then Oper.wp Try.prog o a W K Q else E := step_call hw ho (by simp) hcf hc h


/-- The cells of a row or a struct. -/
def isRowD : TypeDesc → Bool
  | .struct _ | .array _ _ => true
  | _ => false
theorem arm_loadS {ops : Array Oper} {rest : List Oper} {a : Act} {w : World} {Q : Exit → Act → World → Prop} {ty t0 : TypeId} {x : Operand} {d : Option Tmp} {ps : String} {af : Array Edge} {gd : Option (Nat × Bool)} {cs : Array Value} {b : Nat} {D : TypeDesc}
    (hw : Region.wanted { dst := d, op := .load ty x, type := t0, pos := ps, after := af, guard := gd } (yielded ops a.tmps) = true)
    (hx : a.eval x = .pointer (some ⟨b, 0, none⟩)) (hc : w.rangeAt b 0 cs.toList)
    (hu : Try.prog.underlying ty = some D) (hD : D.isRow = true) (hi : (Try.prog.info? ty).map (·.size) = some cs.size)
    (h : wpList Try.prog ops Q rest (a.put d (.agg cs)) w) :
    wpList Try.prog ops Q ({ dst := d, op := .load ty x, type := t0, pos := ps, after := af, guard := gd } :: rest) a w :=
  wpList_load_g (op := { dst := d, op := .load ty x, type := t0, pos := ps, after := af, guard := gd }) hw ty x rfl b 0 hx cs.toList D hc hu hD (by rw [hi, Array.length_toList]) (by rw [Array.toArray_toList (xs := cs)]; exact h)
theorem results_tmp_cell {fn : Func} {p u : Tmp} {ty : TypeId} (h : fn.results = #[.tmp u, .cell p ty]) (tmps : Array Value) (P : Program) (w : World) :
    (results fn tmps).run P w =
      ((asAddr (tmps.getD p undef)).run P w).andThen fun a w₁ => ((loadVar ty a).run P w₁).andThen fun v w₂ => .ok (.tuple #[tmps.getD u undef, v]) w₂ := by
  simp only [results, h]
  simp [Sem.run_bind, Result.andThen]
theorem results_two_cells {fn : Func} {p q : Tmp} {ty tz : TypeId} (h : fn.results = #[.cell p ty, .cell q tz]) (tmps : Array Value) (P : Program) (w : World) :
    (results fn tmps).run P w =
      ((asAddr (tmps.getD p undef)).run P w).andThen fun a w₁ => ((loadVar ty a).run P w₁).andThen fun v w₂ =>
      ((asAddr (tmps.getD q undef)).run P w₂).andThen fun b w₃ => ((loadVar tz b).run P w₃).andThen fun u w₄ => .ok (.tuple #[v, u]) w₄ := by
  simp only [results, h]
  simp [Sem.run_bind, Result.andThen]
theorem struct46 : ∃ fs, Try.prog.underlying 46 = some (.struct fs) := ⟨_, Try.underlying46⟩
theorem size46 : (Try.prog.info? 46).map (·.size) = some 2 := by kernel_rfl
theorem size31 : (Try.prog.info? 31).map (·.size) = some 32 := by kernel_rfl
/-- A struct read at the end, behind a value. -/
theorem ret_in {fn : Func} {R : Ending → World → Prop} {p u : Tmp} (h : fn.results = #[.tmp u, .cell p 46]) {a : Act} {W : World} (g : Nat) (fr : Nat × Nat) (v x y : Value) {t : TypeId}
    (hp : a.tmps.getD p undef = .pointer (some ⟨g, 0, none⟩)) (hv : a.tmps.getD u undef = v) (hd : a.defers = []) (hg : W.heap[g]? = some (.cells #[x, y] t fr))
    (hR : R (.returned (.tuple #[v, .agg #[x, y]])) W) : bodyPost Try.prog fn R .ret a W := by
  refine bodyPost_ret (v := .tuple #[v, .agg #[x, y]]) ?_ hd hR
  rw [results_tmp_cell h, hp, hv]
  obtain ⟨fs, hfs⟩ := struct46
  simp [asAddr, Result.andThen, run_loadVar_row W g t 46 #[x, y] fr _ hg hfs rfl size46]
theorem ret_one {fn : Func} {R : Ending → World → Prop} {p : Tmp} (h : fn.results = #[.cell p 46]) {a : Act} {W : World} (g : Nat) (fr : Nat × Nat) (x y : Value) {t : TypeId}
    (hp : a.tmps.getD p undef = .pointer (some ⟨g, 0, none⟩)) (hd : a.defers = []) (hg : W.heap[g]? = some (.cells #[x, y] t fr))
    (hR : R (.returned (.agg #[x, y])) W) : bodyPost Try.prog fn R .ret a W := by
  obtain ⟨fs, hfs⟩ := struct46
  exact bodyPost_ret (v := .agg #[x, y]) (results_cell_row h _ _ g t #[x, y] fr _ hp hg hfs rfl size46) hd hR
/-- A reader's state, by value. -/
def InV (w0 : World) (v : Value) (l : List Int) (bad : Bool) : Prop :=
  ∃ A c, v = .agg #[.slice A l.length c, .bool bad] ∧ (Kd.int .u8).C w0 A l.length l ∧ l.length ≤ c
theorem inv_failed (w0 : World) : InV w0 (.agg #[.slice none 0 0, .bool true]) [] true :=
  ⟨none, 0, rfl, Kd.C_of_reads (d := (0 : Int)) (h1 := fun _ => rfl) (ReadsOf.nil _ _ _), Nat.le_refl _⟩
theorem inv_drop {w0 : World} {A : Option Addr} {c : Nat} {l : List Int} {n : Nat} (hC : (Kd.int .u8).C w0 A l.length l) (hc : l.length ≤ c) (hn : n ≤ l.length) :
    InV w0 (.agg #[.slice (if c = n then A else A.map (·.add n)) (l.length - n) (c - n), .bool false]) (l.drop n) false := by
  have hd := Kd.C_drop hC hn hc
  have e1 : n * (Kd.int .u8).sz = n := Nat.mul_one n
  rw [e1] at hd
  refine ⟨_, c - n, by rw [List.length_drop], ?_, by rw [List.length_drop]; omega⟩
  exact hd

theorem elem22 : Try.prog.elem 22 = 5 := by kernel_rfl
theorem slice_low (W : World) (A : Option Addr) (n c i : Nat) (k : IntKind) (h : i ≤ n) :
    (Instr.sliceAt 22 (.slice A n c) (some (.int k i)) none none).run Try.prog W = .ok (.slice (if c = i then A else A.map (·.add i)) (n - i) (c - i)) W := by
  have hu : Try.prog.underlying 22 = some (.slice (Try.prog.elem 22)) := by rw [elem22]; exact Try.underlying22
  rw [run_sliceAt_slice W 22 _ _ _ _ hu, run_slice_l W 22 A n c hu k (i : Int) (by omega) (by omega), elem22, Try.sizeOf5]
  simp [Result.andThen, sliced]
theorem slice_high (W : World) (A : Option Addr) (n c i : Nat) (k : IntKind) (h : i ≤ n) (hc : n ≤ c) :
    (Instr.sliceAt 22 (.slice A n c) none (some (.int k i)) none).run Try.prog W = .ok (.slice A i c) W := by
  have hu : Try.prog.underlying 22 = some (.slice (Try.prog.elem 22)) := by rw [elem22]; exact Try.underlying22
  rw [run_sliceAt_slice W 22 _ _ _ _ hu, run_slice_h W 22 A n c hu k (i : Int) (by omega) (by omega), elem22, Try.sizeOf5]
  cases A with
  | none => simp [Result.andThen, sliced]
  | some a => simp [Result.andThen, sliced, Addr.add]
theorem yields_low {ops : Array Oper} {S : World → Prop} {op : Oper} {a : Act} (hw : Region.wanted op (yielded ops a.tmps) = true) (x y : Operand) (ho : op.op = .slice 22 x (some y) none none) (A : Option Addr) (n c i : Nat) (k : IntKind)
    (hx : a.eval x = .slice A n c) (hy : a.eval y = .int k i) (h : i ≤ n) : YieldsIf Try.prog ops S op (.slice (if c = i then A else A.map (·.add i)) (n - i) (c - i)) a := .inl ⟨hw, fun w _ => by
    unfold execOp
    simp only [ho, Sem.run_bind, Sem.run_pure, Result.andThen_ok, Option.map_some, Option.map_none, hx, hy, slice_low w A n c i k h]⟩
theorem yields_high {ops : Array Oper} {S : World → Prop} {op : Oper} {a : Act} (hw : Region.wanted op (yielded ops a.tmps) = true) (x y : Operand) (ho : op.op = .slice 22 x none (some y) none) (A : Option Addr) (n c i : Nat) (k : IntKind)
    (hx : a.eval x = .slice A n c) (hy : a.eval y = .int k i) (h : i ≤ n) (hc : n ≤ c) : YieldsIf Try.prog ops S op (.slice A i c) a := .inl ⟨hw, fun w _ => by
    unfold execOp
    simp only [ho, Sem.run_bind, Sem.run_pure, Result.andThen_ok, Option.map_some, Option.map_none, hx, hy, slice_high w A n c i k h hc]⟩
/-- a store of a struct in a region that draws its order -/
theorem step_store {ops : Array Oper} {o : Oper} {a : Act} {Q : Exit → Act → World → Prop} {K : Act → World → Prop} {W : World} {E : Prop} (hw : Region.wanted o (yielded ops a.tmps) = true) (ty : TypeId) (x y : Operand) (ho : o.op = .store ty x y)
    (b : Nat) (cells : Array Value) (hx : a.eval x = .pointer (some ⟨b, 0, none⟩)) (hy : a.eval y = .agg cells) (ht : W.there b 0 cells.size) (hi : (Try.prog.info? ty).map (·.size) = some cells.size) (h1 : cells.all (·.oneCell') = true)
    (h : K (a.put o.dst undef) (W.setCells b 0 cells.toList)) :
    if Region.wanted o (yielded ops a.tmps) = true then Oper.wp Try.prog o a W K Q else E := by
  rw [if_pos hw]
  exact wp_store_mid ty x y ho b 0 cells hx hy ht hi h1 h

set_option maxRecDepth 20000 in
theorem failed_any (w : World) : Calls Try.prog 40 #[] w fun e w' => e = .returned (.agg #[.slice none 0 0, .bool true]) ∧ Below w.heap.size w w' := by
  go_enter Try.func40, Try.ntmps40
  go_wp2
  exact ret_one rfl w.heap.size (0, 0) _ _ rfl rfl (heap_alloc_new w _) ⟨rfl, below_alloc (Below.refl _ _) _⟩
end Go.Proofs.Ytighpoelpedneaa

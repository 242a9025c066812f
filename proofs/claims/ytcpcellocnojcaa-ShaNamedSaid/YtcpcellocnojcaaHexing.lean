import Derived.Test.YtcpcellocnojcaaRPar
namespace Go.Proofs.Ytcpcellocnojcaa
open Go Go.RowKit Go.Proofs.YtcpcellocnojcaaW.PrintWords
set_option linter.unusedVariables false
set_option linter.unusedSimpArgs false

/-- A guarded load of a whole array. -/
theorem wpList_load_g {ops : Array Oper} {rest : List Oper} {op : Oper} {a : Act} {w : World} {Q : Exit → Act → World → Prop} (hw : Region.wanted op (yielded ops a.tmps) = true) (ty : TypeId) (x : Operand) (ho : op.op = .load ty x)
    (b o : Nat) (hx : a.eval x = .pointer (some ⟨b, o, none⟩)) (cs : List Value) (d : TypeDesc) (hc : w.rangeAt b o cs)
    (hu : Try.prog.underlying ty = some d) (hd : d.isRow = true) (hi : (Try.prog.info? ty).map (·.size) = some cs.length)
    (h : wpList Try.prog ops Q rest (a.put op.dst (.agg cs.toArray)) w) : wpList Try.prog ops Q (op :: rest) a w :=
  wpList_step fun K hK => by
    rw [if_pos hw]
    exact wp_load_mid ty x ho b o hx cs d hc hu hd hi (hK _ _ h)
/-- .. of an array, as it lies. -/
theorem wpList_load_a {ops : Array Oper} {rest : List Oper} {op : Oper} {a : Act} {w : World} {Q : Exit → Act → World → Prop} (hw : Region.wanted op (yielded ops a.tmps) = true) (ty : TypeId) (x : Operand) (ho : op.op = .load ty x)
    (b : Nat) (hx : a.eval x = .pointer (some ⟨b, 0, none⟩)) (cs : Array Value) (n : Nat) (e : TypeId) (hc : w.rangeAt b 0 cs.toList)
    (hu : Try.prog.underlying ty = some (.array n e)) (hi : (Try.prog.info? ty).map (·.size) = some cs.size)
    (h : wpList Try.prog ops Q rest (a.put op.dst (.agg cs)) w) : wpList Try.prog ops Q (op :: rest) a w :=
  wpList_load_g hw ty x ho b 0 hx cs.toList _ hc hu rfl (by rw [hi, Array.length_toList]) (by rw [Array.toArray_toList (xs := cs)]; exact h)
/-- An array stored into the block that was made last. -/
theorem wpList_store_new {ops : Array Oper} {rest : List Oper} {op : Oper} {a : Act} {W : World} {Q : Exit → Act → World → Prop} (hgd : op.guard = none) (ty : TypeId) (x y : Operand) (ho : op.op = .store ty x y)
    (c c' : Array Value) (hx : a.eval x = .pointer (some ⟨W.heap.size, 0, none⟩)) (hy : a.eval y = .agg c') (hi : (Try.prog.info? ty).map (·.size) = some c'.size) (hs : c.size = c'.size) (h1 : c'.all (·.oneCell') = true)
    (h : wpList Try.prog ops Q rest (a.put op.dst undef) (W.alloc (.cells c' ty))) : wpList Try.prog ops Q (op :: rest) a (W.alloc (.cells c ty)) :=
  wpList_plain hgd fun K hK => by
    unfold Oper.wp execOp
    simp only [ho, hx, hy, Sem.run_bind, Sem.run_pure, Result.andThen_ok, run_storeAt_new W ty c c' hi hs h1]
    exact hK _ _ h
/-! The same for a walk's arms: 'with_reducible refine', what is to be shown by 'rfl' behind it. -/
theorem arm_store_new {ops : Array Oper} {rest : List Oper} {a : Act} {W : World} {Q : Exit → Act → World → Prop} {ty t0 : TypeId} {x y : Operand} {ps : String} {af : Array Edge} {c c' : Array Value}
    (hx : a.eval x = .pointer (some ⟨W.heap.size, 0, none⟩)) (hy : a.eval y = .agg c') (hi : (Try.prog.info? ty).map (·.size) = some c'.size) (hs : c.size = c'.size) (h1 : c'.all (·.oneCell') = true)
    (h : wpList Try.prog ops Q rest (a.put none undef) (W.alloc (.cells c' ty))) :
    wpList Try.prog ops Q ({ dst := none, op := .store ty x y, type := t0, pos := ps, after := af, guard := none } :: rest) a (W.alloc (.cells c ty)) :=
  wpList_store_new (op := { dst := none, op := .store ty x y, type := t0, pos := ps, after := af, guard := none }) rfl ty x y rfl c c' hx hy hi hs h1 h
theorem arm_load {ops : Array Oper} {rest : List Oper} {a : Act} {w : World} {Q : Exit → Act → World → Prop} {ty t0 : TypeId} {x : Operand} {d : Option Tmp} {ps : String} {af : Array Edge} {gd : Option (Nat × Bool)} {cs : Array Value} {n b : Nat} {e : TypeId}
    (hw : Region.wanted { dst := d, op := .load ty x, type := t0, pos := ps, after := af, guard := gd } (yielded ops a.tmps) = true)
    (hx : a.eval x = .pointer (some ⟨b, 0, none⟩)) (hc : w.rangeAt b 0 cs.toList)
    (hu : Try.prog.underlying ty = some (.array n e)) (hi : (Try.prog.info? ty).map (·.size) = some cs.size)
    (h : wpList Try.prog ops Q rest (a.put d (.agg cs)) w) :
    wpList Try.prog ops Q ({ dst := d, op := .load ty x, type := t0, pos := ps, after := af, guard := gd } :: rest) a w :=
  wpList_load_a (op := { dst := d, op := .load ty x, type := t0, pos := ps, after := af, guard := gd }) hw ty x rfl b hx cs n e hc hu hi h
theorem arm_store {ops : Array Oper} {rest : List Oper} {a : Act} {W : World} {Q : Exit → Act → World → Prop} {ty t0 : TypeId} {x y : Operand} {ps : String} {af : Array Edge} {c' : Array Value} {b : Nat}
    (hx : a.eval x = .pointer (some ⟨b, 0, none⟩)) (hy : a.eval y = .agg c') (ht : W.there b 0 c'.size) (hi : (Try.prog.info? ty).map (·.size) = some c'.size) (h1 : c'.all (·.oneCell') = true)
    (h : wpList Try.prog ops Q rest (a.put none undef) (W.setCells b 0 c'.toList)) :
    wpList Try.prog ops Q ({ dst := none, op := .store ty x y, type := t0, pos := ps, after := af, guard := none } :: rest) a W :=
  wpList_store_mid (op := { dst := none, op := .store ty x y, type := t0, pos := ps, after := af, guard := none }) rfl ty x y rfl b 0 c' hx hy ht hi h1 h
def abcS : ByteArray := ⟨#[98, 97, 55, 56, 49, 54, 98, 102, 56, 102, 48, 49, 99, 102, 101, 97, 52, 49, 52, 49, 52, 48, 100, 101, 53, 100, 97, 101, 50, 50, 50, 51, 98, 48, 48, 51, 54, 49, 97, 51, 57, 54, 49, 55, 55, 97, 57, 99, 98, 52, 49, 48, 102, 102, 54, 49, 102, 50, 48, 48, 49, 53, 97, 100]⟩
def abcL : List Int := [186, 120, 22, 191, 143, 1, 207, 234, 65, 65, 64, 222, 93, 174, 34, 35, 176, 3, 97, 163, 150, 23, 122, 156, 180, 16, 255, 97, 242, 0, 21, 173]
theorem abc_good : good (bytesOf abcS) = true := by decide +kernel
theorem abc_parse : parseB (bytesOf abcS) = abcL := by decide +kernel
theorem abc_hex : strOfNums (hexL abcL) = abcS := by decide +kernel
theorem abc_arr : Arr 32 (cellsN abcL) abcL := Arr.mk' abcL rfl (by decide)

set_option maxHeartbeats 2000000 in
set_option maxRecDepth 20000 in
theorem hexing_any (w : World) :
    Calls Try.prog 10 #[] w fun e w' => e = .returned (.bool true) ∧ Below w.heap.size w w' := by
  have h23 := Try.underlying23
  have hp := parse_any abcS w
  rw [abc_good, abc_parse] at hp
  have HP := Aside0.mk hp
  have HSZ := Aside0.mk (show (Try.prog.info? 23).map (·.size) = some (cellsN abcL).size from size23)
  have HSZ2 := Aside0.mk (show (Try.prog.info? 23).map (·.size) = some (cellsN abcL).toList.length from size23)
  have HZ := Aside0.mk (show (Try.prog.info? 23).map (·.size) = some (cellsN zeros32).size from size23)
  clear hp
  go_enter Try.func10, Try.ntmps10
  have hs := abc_hex
  have hc0 : ∀ W : World, (W.alloc (.cells (cellsN abcL) 23)).cell? ⟨W.heap.size, 0, none⟩ = some (.int .u8 186) := fun W => by
    rw [cell_of_row _ _ _ _ 23 (0, 0) (heap_alloc_new W _)]; rfl
  go_wp2_with (first
    | (go_at_call 13; refine HP.out.mono ?_; rintro e w1 ⟨rfl, hb1⟩; have HB1 := Aside0.mk hb1; clear hb1)
    | (refine wpList_store_new rfl 23 (.tmp 2) (.tmp 7) rfl (cellsN zeros32) (cellsN abcL) rfl rfl HSZ.out rfl (cellsN_one _) ?_)
    | (refine wpList_load_g (by rfl) 23 (.tmp 2) rfl w1.heap.size 0 rfl (cellsN abcL).toList _ (range_cs (heap_alloc_new w1 _)) h23 rfl HSZ2.out ?_; rw [Array.toArray_toList])
    | (go_at_call 11; refine (hex_any _ _ _ abc_arr).mono ?_; rintro e w2 ⟨rfl, hb2⟩; have HB2 := Aside0.mk hb2; clear hb2; rw [hs]))
  go_ret
  exact ⟨ret_bool (by decide +kernel), below_step (below_alloc HB1.out _) HB2.out⟩
end Go.Proofs.Ytcpcellocnojcaa

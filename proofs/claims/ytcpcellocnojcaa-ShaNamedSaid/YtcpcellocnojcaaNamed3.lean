import Derived.Test.YtcpcellocnojcaaNamed2
namespace Go.Proofs.Ytcpcellocnojcaa
open Go Go.RowKit Go.Proofs.YtcpcellocnojcaaW.PrintWords
set_option linter.unusedVariables false
set_option linter.unusedSimpArgs false

theorem arm_loado {ops : Array Oper} {rest : List Oper} {a : Act} {w : World} {Q : Exit → Act → World → Prop} {ty t0 : TypeId} {x : Operand} {d : Option Tmp} {ps : String} {af : Array Edge} {gd : Option (Nat × Bool)} {cs : List Value} {n b o : Nat} {e : TypeId}
    (hw : Region.wanted { dst := d, op := .load ty x, type := t0, pos := ps, after := af, guard := gd } (yielded ops a.tmps) = true)
    (hx : a.eval x = .pointer (some ⟨b, o, none⟩)) (hc : w.rangeAt b o cs)
    (hu : Try.prog.underlying ty = some (.array n e)) (hi : (Try.prog.info? ty).map (·.size) = some cs.length)
    (h : wpList Try.prog ops Q rest (a.put d (.agg cs.toArray)) w) :
    wpList Try.prog ops Q ({ dst := d, op := .load ty x, type := t0, pos := ps, after := af, guard := gd } :: rest) a w :=
  wpList_load_g (op := { dst := d, op := .load ty x, type := t0, pos := ps, after := af, guard := gd }) hw ty x rfl b o hx cs _ hc hu rfl hi h
/-- Bytes with a name: asked already (d)? -/
structure Nmd (w : World) (g : Nat) (A : Option Addr) (c : Nat) (l : List Int) (d : Bool) : Prop where
  blk : w.heap[g]? = some (.cells (nm (.slice A l.length c) (if d then 1 else 0) 0 (if d then sumF l else z32) (if d then 1 else 0)) 92 (0, 0))
  C : (Kd.int .u8).C w A l.length l
  cap : l.length ≤ c
  ne : ∀ ad, A = some ad → ad.block ≠ g
theorem Nmd.step {w w' : World} {g : Nat} {A : Option Addr} {c : Nat} {l : List Int} {d : Bool} (h : Nmd w g A c l d) (k : Below w.heap.size w w') : Nmd w' g A c l d :=
  ⟨(k.block _ (blk_lt h.blk)).trans h.blk, Kd.C_below h.C k, h.cap, h.ne⟩
/-- What the place holds behind an asking. -/
def Asked (w : World) (g : Nat) (A : Option Addr) (c : Nat) (l : List Int) (w' : World) : Prop := Nmd w' g A c l true ∧ w.grownBy w' (some g)
theorem sz23 (l : List Int) (h : l.length = 32) : (Try.prog.info? 23).map (·.size) = some (l.map (Value.int .u8)).length := by rw [size23, List.length_map, h]
theorem zsz' (l : List Int) (h : l.length = 32) : ((List.replicate 32 (0 : Int)).map (Value.int .u8)).toArray.size = ((l.map (Value.int .u8)).toArray).size := by simp [h]

theorem grown_other {a b c : World} {row : Option Nat} {g : Nat} (h : a.grownBy b row) (k : b.grownBy c (some g)) (hg : a.heap.size ≤ g) : a.grownBy c row :=
  ⟨k.os.trans h.os, k.tape.trans h.tape, k.output.trans h.output, Nat.le_trans h.size k.size, fun i hi hne => (k.block i (Nat.lt_of_lt_of_le hi h.size) (fun e => by injection e with e; omega)).trans (h.block i hi hne)⟩
theorem below_grown {w w' : World} (row : Option Nat) (h : Below w.heap.size w w') : w.grownBy w' row := ⟨h.os, h.tape, h.output, h.size, fun j hj _ => h.block j hj⟩
set_option maxRecDepth 100000 in
set_option maxHeartbeats 1600000 in
theorem id_any (w : World) (g : Nat) (A : Option Addr) (c : Nat) (l : List Int) (d : Bool) (h : Nmd w g A c l d) (hl : l.length ≤ 140737488351232) :
    Calls Try.prog 23 #[.pointer (some ⟨g, 0, none⟩)] w fun e w' => e = .returned (.agg (((sumF l).map (Value.int .u8)).toArray)) ∧ Asked w g A c l w' := by
  have HH := Aside0.mk h
  have hgl := blk_lt h.blk
  have hmf : ∀ (fn : Fn) (first cap : Array Value) (w : World), (Instr.makeFunc fn first cap).run Try.prog w = .ok (.func fn first cap) w := fun _ _ _ _ => rfl
  obtain ⟨W2, hW2⟩ : ∃ W2, (w.alloc (.cells #[.pointer (some ⟨g, 0, none⟩)] 45)).alloc (.cells ((List.replicate 32 (0 : Int)).map (Value.int .u8)).toArray 23) = W2 := ⟨_, rfl⟩
  have HB2 := Aside0.mk (show Below w.heap.size w W2 by rw [← hW2]; exact below_alloc (below_alloc (Below.refl _ _) _) _)
  have hp0 : W2.heap[w.heap.size]? = some (.cells #[.pointer (some ⟨g, 0, none⟩)] 45 (0, 0)) := by rw [← hW2]; exact heap_alloc2_old _ _ _
  have hz0 : W2.heap[w.heap.size + 1]? = some (.cells ((List.replicate 32 (0 : Int)).map (Value.int .u8)).toArray 23 (0, 0)) := by rw [← hW2]; exact heap_alloc2_new _ _ _
  have HP0 := Aside0.mk hp0
  have HZ0 := Aside0.mk hz0
  have HN2 := Aside0.mk (h.step HB2.out)
  have HW2 := Aside0.mk hW2
  have HGL := Aside0.mk hgl
  have HDO := Aside0.mk (show Calls Try.prog 40 #[.pointer (some ⟨g, 1, none⟩), .func (.func 41) #[] #[.pointer (some ⟨w.heap.size, 0, none⟩)]] W2 fun e w' => e = .returned (.tuple #[]) ∧ Nmd w' g A c l true ∧ W2.grownBy w' (some g) by
    cases d with
    | false =>
      refine (do_first ⟨w.heap.size, 0, none⟩ g A c l W2 (blk_cell hp0 0) (by show w.heap.size ≠ g; omega) HN2.out.blk HN2.out.C HN2.out.ne HN2.out.cap hl).mono ?_
      rintro e w' ⟨he, h3, g3⟩
      exact ⟨he, ⟨h3, C_grown HN2.out.C g3 HN2.out.ne, HN2.out.cap, HN2.out.ne⟩, g3⟩
    | true =>
      refine (do_done ⟨g, 1, none⟩ _ W2 (nm_cell HN2.out.blk (sumF_len l)).2.1).mono ?_
      rintro e w' ⟨he, rfl⟩
      exact ⟨he, HN2.out, World.grownBy.refl _ _⟩)
  have HS := Aside0.mk (sz23 (sumF l) (sumF_len l))
  have HSZ := Aside0.mk (size23a (sumF l) (sumF_len l))
  have HZS := Aside0.mk (zsz' (sumF l) (sumF_len l))
  have HONE := Aside0.mk (ints_one (sumF l))
  clear h hl hp0 hz0 hW2 hgl
  go_enter Try.func23, Try.ntmps23
  go_wp2_with fail
  generalize hE : (w.alloc _).alloc _ = E
  obtain rfl : E = W2 := hE.symm.trans HW2.out
  clear hE HW2
  refine HDO.out.mono ?_
  rintro e w3 ⟨rfl, hn3, hg3⟩
  have HN3 := Aside0.mk hn3
  have HG3 := Aside0.mk hg3
  have hp3 : w3.cell? ⟨w.heap.size, 0, none⟩ = some (.pointer (some ⟨g, 0, none⟩)) := blk_cell ((hg3.block _ (blk_lt HP0.out) (fun e => by injection e with e; have := HGL.out; omega)).trans HP0.out) 0
  have HZ3 := Aside0.mk ((hg3.block _ (blk_lt HZ0.out) (fun e => by injection e with e; have := HGL.out; omega)).trans HZ0.out)
  have HRG := Aside0.mk (show w3.rangeAt g 4 ((sumF l).map (Value.int .u8)) from (nm_cell hn3.blk (sumF_len l)).2.2.2.2)
  clear hn3 hg3
  go_wp2_with (first
    | ((with_reducible refine arm_loado (cs := (sumF l).map (Value.int .u8)) (b := g) (o := 4) ?_ ?_ HRG.out Try.underlying23 HS.out ?_); rfl; rfl)
    | ((with_reducible refine arm_store (b := w.heap.size + 1) (c' := ((sumF l).map (Value.int .u8)).toArray) ?_ ?_ (there_cs HZ3.out HZS.out) HSZ.out HONE.out ?_); rfl; rfl))
  have hfin := setCells_row HZ3.out ((sumF l).map (Value.int .u8)).toArray.toList (by simp [sumF_len])
  rw [Array.toArray_toList (xs := ((sumF l).map (Value.int .u8)).toArray)] at hfin
  have hgr : w.grownBy (w3.setCells (w.heap.size + 1) 0 ((sumF l).map (Value.int .u8)).toArray.toList) (some g) :=
    grown_other (grown_trans' (below_grown (some g) HB2.out) HG3.out) (setCells_grown (w.heap.size + 1) _ 0 w3) (Nat.le_succ _)
  exact bodyPost_ret (v := .agg ((sumF l).map (Value.int .u8)).toArray) (results_cell_row rfl _ _ (w.heap.size + 1) 23 _ (0, 0) _ rfl hfin Try.underlying23 rfl HSZ.out) rfl
    ⟨rfl, ⟨(setCells_other (by have := HGL.out; omega)).trans HN3.out.blk, C_grown HH.out.C hgr HH.out.ne, HH.out.cap, HH.out.ne⟩, hgr⟩
set_option maxRecDepth 100000 in
theorem sums_any (w : World) (g : Nat) (A : Option Addr) (c : Nat) (l : List Int) (d : Bool) (h : Nmd w g A c l d) :
    Calls Try.prog 24 #[.pointer (some ⟨g, 0, none⟩)] w fun e w' => e = .returned (.int .i64 (if d then 1 else 0)) ∧ w' = w := by
  have hz : (if d then sumF l else z32).length = 32 := by cases d with | true => exact sumF_len l | false => rfl
  have hc := (nm_cell h.blk hz).2.2.2.1
  have hl := run_call_load (P := Try.prog) Try.func54 (by kernel_rfl) (by kernel_rfl) (by kernel_rfl) .i64 (by kernel_rfl) hc
  clear h hz
  obtain ⟨s, hs⟩ : ∃ s : Int, (if d then 1 else 0) = s := ⟨_, rfl⟩
  rw [hs] at hc hl ⊢
  clear hs
  go_enter Try.func24, Try.ntmps24
  go_wp2
  go_ret
  exact ⟨rfl, rfl⟩
theorem bytes_any (w : World) (g : Nat) (A : Option Addr) (c : Nat) (l : List Int) (d : Bool) (h : Nmd w g A c l d) (hl : l.length ≤ 140737488351232) :
    Calls Try.prog 25 #[.pointer (some ⟨g, 0, none⟩)] w (Made w l) := by
  have hc : w.cell? ⟨g, 0, none⟩ = some (.slice A l.length c) := blk_cell h.blk 0
  have HC := Aside0.mk (clone_any A c l w h.C (by omega))
  clear h hl
  go_enter Try.func25, Try.ntmps25
  go_wp2_with (first | (go_at_call 37; (with_reducible refine HC.out.mono ?_); rintro e w1 ⟨v1, rfl, ho, hb1⟩; have HO := Aside0.mk ho; have HB := Aside0.mk hb1; clear ho hb1))
  go_ret
  exact ⟨v1, rfl, HO.out, HB.out⟩
end Go.Proofs.Ytcpcellocnojcaa

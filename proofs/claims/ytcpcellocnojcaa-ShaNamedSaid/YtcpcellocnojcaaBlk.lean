import Derived.Test.YtcpcellocnojcaaBld
import Derived.Deep.WholeRow
import Derived.Laws.CopyOwn
import Derived.Deep.MidRow
namespace Go.Proofs.Ytcpcellocnojcaa
open Go Go.RowKit Go.Proofs.YtcpcellocnojcaaW.PrintWords
set_option linter.unusedVariables false
set_option linter.unusedSimpArgs false

/-- An array's cells: n bytes. -/
structure Arr (n : Nat) (cs : Array Value) (l : List Int) : Prop where
  size : cs.size = n
  len : l.length = n
  at_ : ∀ j, j < l.length → cs[j]? = some (.int .u8 (l.getD j 0))
  wf : ∀ x ∈ l, 0 ≤ x ∧ x < 256
theorem Arr.eq {n : Nat} {cs : Array Value} {l : List Int} (h : Arr n cs l) : cs = (l.map (Value.int .u8)).toArray := by
  apply Array.ext
  · simp [h.size, h.len]
  · intro i h1 h2
    have := h.at_ i (by have := h.size; have := h.len; omega)
    rw [Array.getElem?_eq_getElem h1] at this
    have hi : i < l.length := by have := h.size; have := h.len; omega
    simp only [Option.some.injEq] at this
    rw [this]
    simp [hi]
theorem Arr.mk' {n : Nat} (l : List Int) (hl : l.length = n) (hw : ∀ x ∈ l, 0 ≤ x ∧ x < 256) : Arr n (l.map (Value.int .u8)).toArray l :=
  ⟨by simp [hl], hl, fun j hj => by simp [hj], hw⟩
section
variable {P : Program}
/-- A whole block is read. -/
theorem load_block (w : World) (g n : Nat) (cs : Array Value) (t : TypeId) (fr : Nat × Nat) (hg : w.heap[g]? = some (.cells cs t fr)) (hn : cs.size = n) :
    (loadCellsFrom ⟨g, 0, none⟩ 0 n #[]).run P w = .ok cs w := by
  subst hn
  have := run_loadCells_list (P := P) w ⟨g, 0, none⟩ cs.toList (fun j v hv => by
    have hadd : (⟨g, 0, none⟩ : Addr).add j = ⟨g, j, none⟩ := by unfold Addr.add; split <;> simp_all
    rw [hadd]
    simp only [World.cell?, hg]
    simpa using hv)
  simpa [loadCells] using this
/-- A whole block is written. -/
theorem store_block (w : World) (g : Nat) (cs c' : Array Value) (t : TypeId) (hg : w.heap[g]? = some (.cells cs t (0, 0))) (hi : (P.info? t).map (·.size) = some c'.size) (ho : cs.size = c'.size) (h1 : c'.all (·.oneCell') = true) :
    (storeCells ⟨g, 0, none⟩ c'.toList 0).run P w = .ok () (w.setRow g c') := by
  have := run_storeVar_row (P := P) w g t t cs c' hg hi ho h1
  cases hq : P.info? t with
  | none => simp [hq] at hi
  | some i =>
    have hs : c'.size = i.size := by simp [hq] at hi; omega
    simpa [storeVar, sizeOf, typeInfo, hq, Value.cells, hs] using this
end
theorem setCells_heap (g : Nat) (t : TypeId) (fr : Nat × Nat) : ∀ (vs : List Value) (o : Nat) (w : World) (old : Array Value), w.heap[g]? = some (.cells old t fr) → ∃ cs : Array Value, (w.setCells g o vs).heap[g]? = some (.cells cs t fr) ∧ cs.size = old.size
  | [], _, w, old, h => ⟨old, h, rfl⟩
  | v :: r, o, w, old, h => by
    have h1 : (w.setCell ⟨g, o, none⟩ v).heap[g]? = some (.cells (old.setIfInBounds o v) t fr) := by
      simp [World.setCell, Array.getElem?_modify, h]
    obtain ⟨cs, h2, h3⟩ := setCells_heap g t fr r (o + 1) _ _ h1
    exact ⟨cs, h2, by rw [h3]; simp⟩
/-- A whole row written. -/
theorem setCells_row {w : World} {g : Nat} {old : Array Value} {t : TypeId} {fr : Nat × Nat} (h : w.heap[g]? = some (.cells old t fr)) (vs : List Value) (hs : vs.length = old.size) : (w.setCells g 0 vs).heap[g]? = some (.cells vs.toArray t fr) := by
  obtain ⟨cs, h1, h2⟩ := setCells_heap g t fr vs 0 w old h
  have : cs = vs.toArray := by
    apply Array.ext
    · simp [h2, hs]
    · intro i hi hi'
      have hi2 : i < vs.length := by simpa using hi'
      have hc := World.cell?_setCells_in g vs 0 w (fun j hj => by
        rw [cell_of_row w g _ old t fr h]
        have : j < old.size := by omega
        simp [this]) i hi2
      rw [cell_of_row _ g _ cs t fr h1, Nat.zero_add] at hc
      rw [Array.getElem?_eq_getElem hi] at hc
      injection hc with hc
  rw [h1, this]
theorem range_blk {w : World} {g : Nat} {cs : List Value} {t : TypeId} (h : w.heap[g]? = some (.cells cs.toArray t (0, 0))) : w.rangeAt g 0 cs := fun j v hv => by
  rw [cell_of_row _ _ _ _ t (0, 0) h, Nat.zero_add]
  simpa using hv
theorem there_blk {w : World} {g : Nat} {cs : List Value} {t : TypeId} (h : w.heap[g]? = some (.cells cs.toArray t (0, 0))) : w.there g 0 cs.toArray.size := fun j hj => by
  have hj' : j < cs.length := by simpa using hj
  exact ⟨by rw [cell_of_row _ _ _ _ t (0, 0) h, Nat.zero_add]; simp [hj'], by simp [World.frozen?, h]⟩
theorem nums_one (l : List Int) : ∀ v ∈ l.map (Value.int .u8), v.oneCell' = true := fun v hv => by
  obtain ⟨x, _, rfl⟩ := List.mem_map.1 hv
  rfl
theorem range_cs {w : World} {g : Nat} {cs : Array Value} {t : TypeId} {fr : Nat × Nat} (h : w.heap[g]? = some (.cells cs t fr)) : w.rangeAt g 0 cs.toList := fun j v hv => by
  rw [cell_of_row _ _ _ _ t fr h, Nat.zero_add]
  simpa using hv
theorem there_cs {w : World} {g : Nat} {cs c' : Array Value} {t : TypeId} (h : w.heap[g]? = some (.cells cs t (0, 0))) (hs : cs.size = c'.size) : w.there g 0 c'.size := fun j hj => by
  have hj' : j < cs.size := by omega
  exact ⟨by rw [cell_of_row _ _ _ _ t (0, 0) h, Nat.zero_add]; simp [hj'], by simp [World.frozen?, h]⟩
theorem size22 : (Try.prog.info? 22).map (·.size) = some 32 := by kernel_rfl
theorem size23 : (Try.prog.info? 23).map (·.size) = some 32 := by kernel_rfl
/-- An array value's item. -/
theorem index_agg {P : Program} {t e : TypeId} {n : Nat} (hu : P.underlying t = some (.array n e)) (hc : (P.info? e).map (·.size) = some 1) (hg : (P.info? e).map (fun i => (i.zero, i.size, i.bytes)) = some (some (.int .u8 0), 1, 1)) (hne : P.underlying e = some (.int .u8)) (cs : Array Value) (k : Nat) (hk : k < n) (hs : cs.size = n) (x : Int) (hx : cs[k]? = some (.int .u8 x)) (W : World) :
    (Instr.index t (.agg cs) (.int .i64 k)).run P W = .ok (.int .u8 x) W := by
  cases hq : P.info? e with
  | none => simp [hq] at hc
  | some i =>
    have hz : i.size = 1 := by simpa [hq] using hc
    have hagg : (isAgg e).run P W = .ok false W := by
      unfold isAgg
      rw [Sem.run_bind, run_underlying hne W]
      simp
    simp [Instr.index, run_underlying hu, asIntOf, go_sem, hk, hs, sizeOf, typeInfo, hq, hz, hagg, hx]
    rw [Array.getElem?_eq_getElem (by omega)] at hx
    exact Option.some.inj hx
theorem byte_at (s : ByteArray) (i : Int) (h0 : 0 ≤ i) (h : i < s.size) : ((s[i.toNat]'(by omega)).toNat : Int) = rd (bytesOf s) i := by
  have h1 : i.toNat < s.data.toList.length := by simp [← ByteArray.size_data] at h ⊢; omega
  simp only [rd, bytesOf]
  rw [List.getD_eq_getElem?_getD, List.getElem?_map, List.getElem?_eq_getElem h1]
  simp
  rfl
theorem digs_dig : bytesOf ⟨#[48, 49, 50, 51, 52, 53, 54, 55, 56, 57, 97, 98, 99, 100, 101, 102]⟩ = dig := by decide +kernel
theorem index_str (s : ByteArray) (k : IntKind) (x : Int) (h0 : 0 ≤ x) (h : x < s.size) (W : World) :
    (Instr.index 9 (.string s) (.int k x)).run Try.prog W = .ok (.int .u8 (rd (bytesOf s) x)) W := by
  rw [run_index_string W 9 _ k x Try.underlying9, dif_pos ⟨h0, h⟩, byte_at _ x h0 h]
theorem index_dig (k : IntKind) (x : Int) (h0 : 0 ≤ x) (h : x < 16) (W : World) :
    (Instr.index 9 (.string ⟨#[48, 49, 50, 51, 52, 53, 54, 55, 56, 57, 97, 98, 99, 100, 101, 102]⟩) (.int k x)).run Try.prog W = .ok (.int .u8 (rd dig x)) W := by
  rw [index_str ⟨#[48, 49, 50, 51, 52, 53, 54, 55, 56, 57, 97, 98, 99, 100, 101, 102]⟩ k x h0 h, digs_dig]
theorem ints_one (l : List Int) : (l.map (Value.int .u8)).toArray.all (·.oneCell') = true := by simp [Value.oneCell']
theorem cells_of (xs : List Int) (h : ∀ x ∈ xs, 0 ≤ x ∧ x < 256) : Lib.byteCells (xs.map fun n => UInt8.ofNat n.toNat) = xs.map (Value.int .u8) := by
  induction xs with
  | nil => rfl
  | cons x r ih =>
    have := h x (by simp)
    have ih := ih (fun y hy => h y (List.mem_cons_of_mem _ hy))
    simp only [Lib.byteCells, List.map_cons, List.map_map] at ih ⊢
    rw [ih]
    congr 1
    congr 1
    simp [UInt8.toNat_ofNat]
    omega
theorem dig_byte (x : Int) (h0 : 0 ≤ x) (h : x < 16) : 0 ≤ rd dig x ∧ rd dig x < 256 := by
  have := (dig_at x.toNat (by omega)).1
  rw [show ((x.toNat : Nat) : Int) = x by omega] at this
  omega
theorem hexL_byte : ∀ l : List Int, (∀ x ∈ l, 0 ≤ x ∧ x < 256) → ∀ x ∈ hexL l, 0 ≤ x ∧ x < 256
  | [], _, x, hx => by cases hx
  | c :: l, hw, x, hx => by
    have hc := hw c (by simp)
    simp only [hexL, List.mem_cons] at hx
    rcases hx with rfl | rfl | hx
    · exact dig_byte _ (by omega) (by omega)
    · exact dig_byte _ (by omega) (by omega)
    · exact hexL_byte l (fun y hy => hw y (List.mem_cons_of_mem _ hy)) x hx
end Go.Proofs.Ytcpcellocnojcaa

import Derived.Test.YtighpoelpedneaaArgs
import Derived.Test.YtighpoelpedneaaIds
import Derived.JoinedCond
namespace Go.Proofs.Ytighpoelpedneaa
open Go.ChangeShapes Go.WideShapes Go.ChangeAt Go.RowKit Go.Proofs.YtighpoelpedneaaW.PrintWords
open Go.ChangeMaps (open_string shut_string)
set_option linter.unusedVariables false
set_option linter.unusedSimpArgs false

theorem one_le {H : Type} (d : DataW H) : 1 ≤ Rows.uptoBulk d := by
  cases d with
  | lit l => cases l <;> simp [Rows.uptoBulk]
  | nil => simp [Rows.uptoBulk]
  | ptr d => simp [Rows.uptoBulk]
  | slice elems spare => simp [Rows.uptoBulk]
  | agg parts => simp [Rows.uptoBulk]
  | iface t d => simp [Rows.uptoBulk]
  | map entries => simp [Rows.uptoBulk]
  | held h => simp [Rows.uptoBulk]
theorem part_le {H : Type} {d : DataW H} {l : List (DataW H)} (h : d ∈ l) : Rows.uptoBulk d ≤ Rows.uptoBulkAll l := by
  induction l with
  | nil => cases h
  | cons x r ih =>
    simp only [Rows.uptoBulkAll]
    cases List.mem_cons.1 h with
    | inl e => subst e; omega
    | inr e => have := ih e; omega
theorem length_le {H : Type} (l : List (DataW H)) : l.length ≤ Rows.uptoBulkAll l := by
  induction l with
  | nil => simp [Rows.uptoBulkAll]
  | cons x r ih => have := one_le x; simp only [Rows.uptoBulkAll, List.length_cons]; omega
theorem bound {H : Type} {l : List (DataW H)} (hk : Rows.uptoSmall H l = true) : Rows.uptoBulkAll l ≤ 1048576 := of_decide_eq_true hk

section
variable {H : Type} {enc : TypeId × Value → H} {P : Program} {W : World} {base : Nat} {t e : TypeId} {v : Value} {d : DataW H} {ps : List MemPlace}

/-- what the bound says of a slice of whole numbers -/
theorem upto_ints {k : IntKind} (hu : P.underlying t = some (.slice e)) (he : P.underlying e = some (.int k)) (hc : P.cellsOf e = 1) {A : Option Addr} {n c : Nat}
    (h : DataW.Trod enc P W 0 (fun _ => true) true t (.slice A n c) d ps) : n ≤ Rows.uptoBulk d := by
  obtain ⟨fuel, hf⟩ := h
  rcases open_ints hu he hc hf with ⟨hcs, _⟩ | ⟨x, l, c, zs, hcs, _, hl, hm, hz, hx, hcell, hwz⟩
  · simp [Value.cells] at hcs
    omega
  · simp [Value.cells] at hcs
    obtain ⟨rfl, rfl, rfl⟩ := hcs
    obtain ⟨hx, _⟩ := Prod.mk.inj hx
    subst hx
    have h1 := length_le (lits (H := H) k (zs.take n))
    have h2 : (lits (H := H) k (zs.take n)).length = n := by
      have hz' : zs.length = c := by simpa using hz
      simp [lits]; omega
    have h3 : Rows.uptoBulkAll (lits (H := H) k (zs.take n)) ≤ Rows.uptoBulk (.slice (lits (H := H) k (zs.take n)) (lits k (zs.drop n))) := by
      simp only [Rows.uptoBulk]; omega
    omega
/-- AN ARGUMENT: a slice of whole numbers (its size is told by the bound). -/
theorem arg_intsU {k : IntKind} (hu : P.underlying t = some (.slice e)) (he : P.underlying e = some (.int k)) (hc : P.cellsOf e = 1)
    (hok : Value.okWide P W .any base t v) (h : DataW.Trod enc P W 0 (fun _ => true) true t v d ps) :
    ∃ (A : Option Addr) (c : Nat) (l : List Int), v = .slice A l.length c ∧ Kd.C (Kd.int k) W A l.length l ∧ l.length ≤ c ∧ (∀ x ∈ l, (Lit.int k x).wf = true) := by
  obtain ⟨a, len, cap, rfl⟩ := okWide_slice hu hok
  obtain ⟨fuel, hf⟩ := h
  rcases open_ints hu he hc hf with ⟨hcs, _⟩ | ⟨x, l, c, zs, hcs, _, hl, hm, hz, hx, hcell, hwz⟩
  · simp [Value.cells] at hcs
    obtain ⟨rfl, rfl, rfl⟩ := hcs
    exact ⟨none, 0, [], rfl, Kd.C_of_reads (d := (0 : Int)) (h1 := fun _ => rfl) (ReadsOf.nil _ _ _), Nat.le_refl _, fun x hx => (by cases hx)⟩
  · simp [Value.cells] at hcs
    obtain ⟨rfl, rfl, rfl⟩ := hcs
    have hz' : zs.length = cap := by simpa using hz
    have e1 : (zs.take len).length = len := by simp; omega
    refine ⟨some x, cap, zs.take len, by rw [e1], Kd.C_of_reads (d := (0 : Int)) (h1 := fun _ => rfl) ⟨rfl, by rw [e1]; simpa [maxLen] using Nat.le_trans hl hm, fun _ => ⟨x, rfl, fun j hj => ?_⟩⟩, by rw [e1]; exact hl, fun y hy => hwz y (List.mem_of_mem_take hy)⟩
    rw [e1] at hj
    rw [hcell j (by omega)]
    simp [List.getD, List.getElem?_take, hj]
theorem upto_string (hu : P.underlying t = some .string) (hok : Value.okWide P W .any base t v) (h : DataW.Trod enc P W 0 (fun _ => true) true t v d ps) {s : ByteArray} (hv : v = .string s) : s.size ≤ Rows.uptoBulk d := by
  obtain ⟨a, e1, hx, _, _⟩ := open_string hu hok h
  rw [hv] at e1
  injection e1 with e1
  subst e1
  subst hx
  have e2 : s.data.toList.length = s.size := by rw [Array.length_toList]; rfl
  simp only [Rows.uptoBulk]
  omega
/-- AN ARGUMENT: an array of bytes, by value. -/
theorem arg_arr {n : Nat} (hu : P.underlying t = some (.array n e)) (he : P.underlying e = some (.int .u8)) (hct : P.cellsOf t = n) (hce : P.cellsOf e = 1) (hn : n ≠ 1)
    (h : DataW.Trod enc P W 0 (fun _ => true) true t v d ps) :
    ∃ (bl : List Value) (l : List Int), v = .agg bl.toArray ∧ Arr n bl.toArray l ∧ (∀ x ∈ l, (Lit.int .u8 x).wf = true) := by
  obtain ⟨fuel, hf⟩ := h
  obtain ⟨xs, m, _, _, hl, hxl, hx⟩ := DataW.trod_array hu hf
  rw [hct] at hl
  obtain ⟨cs, rfl⟩ : ∃ cs, v = .agg cs := by
    cases v with
    | agg cs => exact ⟨cs, rfl⟩
    | _ => simp [Value.cells] at hl; omega
  have hcs : (Value.agg cs).cells.toList = cs.toList := rfl
  rw [hcs] at hl hx
  have each : ∀ i, i < n → ∃ q : Int, cs.toList[i]? = some (.int .u8 q) ∧ (Lit.int .u8 q).wf = true := by
    intro i hi
    have h1 := hx i hi
    rw [hce, Nat.mul_one] at h1
    have hi' : i < xs.length := by omega
    rw [List.getElem?_eq_getElem hi'] at h1
    obtain ⟨q, e1, _, hw⟩ := DataW.trod_int he h1
    refine ⟨q, ?_, hw⟩
    have hi2 : i < cs.toList.length := by omega
    rw [List.drop_eq_getElem_cons hi2] at e1
    simp only [List.take_succ_cons, List.take_zero] at e1
    rw [List.getElem?_eq_getElem hi2]
    injection e1 with e1
    rw [e1]
  refine ⟨cs.toList, cs.toList.map intOf, by simp, ⟨by simpa using hl, by simpa using hl, fun j hj => ?_⟩, fun x hx => ?_⟩
  · have hj' : j < n := by simpa [hl] using hj
    obtain ⟨q, e1, _⟩ := each j hj'
    have e2 : (cs.toList.map intOf).getD j 0 = q := by
      rw [List.getD_eq_getElem?_getD, List.getElem?_map, e1]; rfl
    rw [e2]
    simpa using e1
  · obtain ⟨y, hy, rfl⟩ := List.mem_map.1 hx
    obtain ⟨i, hi, e1⟩ := List.getElem_of_mem hy
    obtain ⟨q, e2, hw⟩ := each i (by omega)
    rw [List.getElem?_eq_getElem hi, e1] at e2
    injection e2 with e2
    rw [e2]
    exact hw
end
theorem wf_u32 {x : Int} (h : (Lit.int .u32 x).wf = true) : 0 ≤ x ∧ x < 4294967296 := by
  simp [Lit.wf, IntKind.min, IntKind.max, IntKind.signed, IntKind.bits] at h
  omega
end Go.Proofs.Ytighpoelpedneaa

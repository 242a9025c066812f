import Derived.Test.YtcpcellocnojcaaArgs
import Derived.Test.YtcpcellocnojcaaBlk
import Derived.JoinedCond
namespace Go.Proofs.Ytcpcellocnojcaa
open Go.ChangeShapes Go.WideShapes Go.ChangeAt Go.RowKit Go.Proofs.YtcpcellocnojcaaW.PrintWords
open Go.ChangeMaps (open_string shut_string)
set_option linter.unusedVariables false
set_option linter.unusedSimpArgs false

section
variable {H : Type} {enc : TypeId × Value → H} {P : Program} {W : World} {base : Nat} {t e : TypeId} {v : Value} {d : DataW H} {ps : List MemPlace}

/-- AN ARGUMENT: an array of bytes, by value. -/
theorem arg_arr {n : Nat} (hu : P.underlying t = some (.array n e)) (he : P.underlying e = some (.int .u8)) (hct : P.cellsOf t = n) (hce : P.cellsOf e = 1) (hn : n ≠ 1)
    (h : DataW.Trod enc P W 0 (fun _ => true) true t v d ps) :
    ∃ (bl : List Value) (l : List Int), v = .agg bl.toArray ∧ Arr n bl.toArray l ∧ (∀ x ∈ l, (Lit.int .u8 x).wf = true) := by
  obtain ⟨fuel, hf⟩ := h
  obtain ⟨xs, m, _, _, hl, hxl, hx⟩ := DataW.trod_array hu hf
  rw [hct] at hl
  obtain ⟨cs, rfl⟩ : ∃ cs, v = .agg cs := by
    cases v with
    | agg cs => exact ⟨cs, rfl⟩
    | _ => simp [Value.cells] at hl; omega
  have hcs : (Value.agg cs).cells.toList = cs.toList := rfl
  rw [hcs] at hl hx
  have each : ∀ i, i < n → ∃ q : Int, cs.toList[i]? = some (.int .u8 q) ∧ (Lit.int .u8 q).wf = true := by
    intro i hi
    have h1 := hx i hi
    rw [hce, Nat.mul_one] at h1
    have hi' : i < xs.length := by omega
    rw [List.getElem?_eq_getElem hi'] at h1
    obtain ⟨q, e1, _, hw⟩ := DataW.trod_int he h1
    refine ⟨q, ?_, hw⟩
    have hi2 : i < cs.toList.length := by omega
    rw [List.drop_eq_getElem_cons hi2] at e1
    simp only [List.take_succ_cons, List.take_zero] at e1
    rw [List.getElem?_eq_getElem hi2]
    injection e1 with e1
    rw [e1]
  have hwf : ∀ x ∈ cs.toList.map intOf, (Lit.int .u8 x).wf = true := fun x hx => by
    obtain ⟨y, hy, rfl⟩ := List.mem_map.1 hx
    obtain ⟨i, hi, e1⟩ := List.getElem_of_mem hy
    obtain ⟨q, e2, hw⟩ := each i (by omega)
    rw [List.getElem?_eq_getElem hi, e1] at e2
    injection e2 with e2
    rw [e2]
    exact hw
  refine ⟨cs.toList, cs.toList.map intOf, by simp, ⟨by simpa using hl, by simpa using hl, fun j hj => ?_, fun x hx => wf_u8 (hwf x hx)⟩, hwf⟩
  · have hj' : j < n := by simpa [hl] using hj
    obtain ⟨q, e1, _⟩ := each j hj'
    have e2 : (cs.toList.map intOf).getD j 0 = q := by
      rw [List.getD_eq_getElem?_getD, List.getElem?_map, e1]; rfl
    rw [e2]
    simpa using e1

end
end Go.Proofs.Ytcpcellocnojcaa

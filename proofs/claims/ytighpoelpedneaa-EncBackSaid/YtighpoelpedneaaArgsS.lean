import Derived.Test.YtighpoelpedneaaArgs
import Derived.SliceStrings
namespace Go.Proofs.Ytighpoelpedneaa
open Go.ChangeShapes Go.WideShapes Go.ChangeAt Go.RowKit Go.Proofs.YtighpoelpedneaaW.PrintWords
open Go.ChangeMaps (open_string shut_string)
set_option linter.unusedVariables false
set_option linter.unusedSimpArgs false

section
variable {H : Type} {enc : TypeId × Value → H} {P : Program} {W : World} {base : Nat} {t e : TypeId} {v : Value} {d : DataW H} {ps : List MemPlace} {ts : List TypeId} {ds : List (DataW H)} {j : Nat}

/-- AN ARGUMENT: a slice of strings. -/
theorem arg_strs (hu : P.underlying t = some (.slice e)) (he : P.underlying e = some .string) (hc : P.cellsOf e = 1)
    (hok : Value.okWide P W .any base t v) (h : DataW.Trod enc P W 0 (fun _ => true) true t v d ps) :
    ∃ (A : Option Addr) (c : Nat) (l : List ByteArray), v = .slice A l.length c ∧ Kd.C Kd.string W A l.length l ∧ l.length ≤ c ∧ (∀ s ∈ l, s.size ≤ maxLen) := by
  obtain ⟨a, len, cap, rfl⟩ := okWide_slice hu hok
  obtain ⟨fuel, hf⟩ := h
  rcases open_strings hu he hc hf with ⟨hcs, _⟩ | ⟨x, l, c, zs, hcs, _, hl, hm, hz, hx, hcell, hwz⟩
  · simp [Value.cells] at hcs
    obtain ⟨rfl, rfl, rfl⟩ := hcs
    exact ⟨none, 0, [], rfl, Kd.C_of_reads (d := ByteArray.empty) (h1 := fun _ => rfl) (ReadsOf.nil _ _ _), Nat.le_refl _, fun x hx => (by cases hx)⟩
  · simp [Value.cells] at hcs
    obtain ⟨rfl, rfl, rfl⟩ := hcs
    have hz' : zs.length = cap := by simpa using hz
    have e1 : (zs.take len).length = len := by simp; omega
    refine ⟨some x, cap, zs.take len, by rw [e1], Kd.C_of_reads (d := ByteArray.empty) (h1 := fun _ => rfl) ⟨rfl, by rw [e1]; simpa [maxLen] using Nat.le_trans hl hm, fun _ => ⟨x, rfl, fun j hj => ?_⟩⟩, by rw [e1]; exact hl, fun y hy => hwz y (List.mem_of_mem_take hy)⟩
    rw [e1] at hj
    rw [hcell j (by omega)]
    simp [List.getD, List.getElem?_take, hj]
end
end Go.Proofs.Ytighpoelpedneaa

import Derived.Test.YtcpcellocnojcaaRows
import Derived.Test.YtcpcellocnojcaaBase
import Derived.ProofKit
import Derived.OpenShut
import Derived.ShutString
import Derived.ChangeOld
import Derived.SizedLaws
namespace Go.Proofs.Ytcpcellocnojcaa
open Go.ChangeShapes Go.WideShapes Go.ChangeAt Go.RowKit Go.Proofs.YtcpcellocnojcaaW.PrintWords
open Go.ChangeMaps (open_string shut_string)
set_option linter.unusedVariables false
set_option linter.unusedSimpArgs false

section
variable {H : Type} {enc : TypeId × Value → H} {P : Program} {W : World} {base : Nat} {t e : TypeId} {v : Value} {d : DataW H} {ps : List MemPlace} {ts : List TypeId} {ds : List (DataW H)} {j : Nat}

/-- AN ARGUMENT: a slice of whole numbers. -/
theorem arg_ints {k : IntKind} {B : Nat} (hu : P.underlying t = some (.slice e)) (he : P.underlying e = some (.int k)) (hc : P.cellsOf e = 1) (hB : P.bytesOf e = B)
    (hok : Value.okWide P W .any base t v) (h : DataW.Trod enc P W 0 (fun _ => true) true t v d ps)
    (hsz : (DataW.weightsEach P ts ds).all (· ≤ reachBytes) = true) (ht : ts[j]? = some t) (hd : ds[j]? = some d) :
    ∃ (A : Option Addr) (c : Nat) (l : List Int), v = .slice A l.length c ∧ Kd.C (Kd.int k) W A l.length l ∧ l.length ≤ c ∧ (∀ x ∈ l, (Lit.int k x).wf = true) ∧ l.length * B ≤ 140737488351232 := by
  obtain ⟨a, len, cap, rfl⟩ := okWide_slice hu hok
  obtain ⟨fuel, hf⟩ := h
  rcases open_ints hu he hc hf with ⟨hcs, _⟩ | ⟨x, l, c, zs, hcs, _, hl, hm, hz, hx, hcell, hwz⟩
  · simp [Value.cells] at hcs
    obtain ⟨rfl, rfl, rfl⟩ := hcs
    exact ⟨none, 0, [], rfl, Kd.C_of_reads (d := (0 : Int)) (h1 := fun _ => rfl) (ReadsOf.nil _ _ _), Nat.le_refl _, fun x hx => (by cases hx), by simp⟩
  · simp [Value.cells] at hcs
    obtain ⟨rfl, rfl, rfl⟩ := hcs
    have hz' : zs.length = cap := by simpa using hz
    have e1 : (zs.take len).length = len := by simp; omega
    refine ⟨some x, cap, zs.take len, by rw [e1], Kd.C_of_reads (d := (0 : Int)) (h1 := fun _ => rfl) ⟨rfl, by rw [e1]; simpa [maxLen] using Nat.le_trans hl hm, fun _ => ⟨x, rfl, fun j hj => ?_⟩⟩, by rw [e1]; exact hl, fun y hy => hwz y (List.mem_of_mem_take hy), ?_⟩
    · rw [e1] at hj
      rw [hcell j (by omega)]
      simp [List.getD, List.getElem?_take, hj]
    · obtain ⟨hx, _⟩ := Prod.mk.inj hx
      subst hx
      have z := sized_slice hsz ht hd hu
      rw [hB] at z
      have h1 : (lits (H := H) k (zs.take len)).length + (lits (H := H) k (zs.drop len)).length = zs.length := by
        simp [lits]
        omega
      rw [h1] at z
      rw [e1]
      exact Nat.le_trans (Nat.mul_le_mul_right _ (by omega)) z

/-- AN ARGUMENT: a string. -/
theorem arg_string (hu : P.underlying t = some .string) (hok : Value.okWide P W .any base t v) (h : DataW.Trod enc P W 0 (fun _ => true) true t v d ps)
    (hsz : (DataW.weightsEach P ts ds).all (· ≤ reachBytes) = true) (ht : ts[j]? = some t) (hd : ds[j]? = some d) :
    ∃ s : ByteArray, v = .string s ∧ s.size ≤ 140737488351232 := by
  obtain ⟨a, rfl, hx, _, _⟩ := open_string hu hok h
  subst hx
  have z := sized_string hsz ht hd
  rw [Array.length_toList] at z
  exact ⟨a, rfl, z⟩

/-- AN ARGUMENT: a whole number. -/
theorem arg_int {k : IntKind} (hu : P.underlying t = some (.int k)) (hok : Value.okWide P W .any base t v) (h : DataW.Trod enc P W 0 (fun _ => true) true t v d ps) :
    ∃ x : Int, v = .int k x ∧ (Lit.int k x).wf = true := by
  obtain ⟨x, rfl, _, _, wx⟩ := open_int hu hok h
  exact ⟨x, rfl, wx⟩
theorem arg_lt (h : DataW.Trod enc P W 0 (fun _ => true) true t v d ps) : ∀ x ∈ ps, x.block < W.heap.size := by
  obtain ⟨m, hm⟩ := h
  exact DataW.trod_lt m _ _ _ hm
end
theorem own : ownKnob Try.prog.godebug = none := by kernel_rfl
theorem laidOut : laidOutB Try.prog = true := by kernel_rfl
theorem wf_u8 {x : Int} (h : (Lit.int .u8 x).wf = true) : 0 ≤ x ∧ x < 256 := by
  have := bounds_u8 h
  omega
end Go.Proofs.Ytcpcellocnojcaa

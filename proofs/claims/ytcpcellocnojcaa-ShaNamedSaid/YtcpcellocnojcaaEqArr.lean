import Derived.Test.YtcpcellocnojcaaHexing
import Derived.ChangeKeysEq
namespace Go.Proofs.Ytcpcellocnojcaa
open Go Go.RowKit Go.Proofs.YtcpcellocnojcaaW.PrintWords
set_option linter.unusedVariables false
set_option linter.unusedSimpArgs false

theorem get_num (l : List Int) (i : Nat) (h : i < l.length) : (l.map (Value.int .u8)).toArray[i]? = some (.int .u8 (rd l i)) := by
  simp [rd, h]
theorem run_items (w : World) (d : Nat) (l l' : List Int) : ∀ is : List Nat, (∀ i ∈ is, i < l.length ∧ i < l'.length) →
    (Op.eqItems (d + 1) 5 1 (l.map (Value.int .u8)).toArray (l'.map (Value.int .u8)).toArray is).run Try.prog w = .ok (is.all fun i => rd l i == rd l' i) w
  | [], _ => by simp [Op.eqItems]
  | i :: is, h => by
    have hp : Try.prog.plainKey 5 = true := by kernel_rfl
    have p1 := run_part_plain (P := Try.prog) w hp (get_num l i (h i (by simp)).1)
    have p2 := run_part_plain (P := Try.prog) w hp (get_num l' i (h i (by simp)).2)
    have p3 := run_equalIn_int (P := Try.prog) w d 5 .u8 .u8 (rd l i) (rd l' i) Try.underlying5
    have ih := run_items w d l l' is (fun j hj => h j (List.mem_cons_of_mem _ hj))
    simp only [Op.eqItems, Sem.run_bind, Nat.mul_one, p1, p2, p3, Result.andThen_ok, List.all_cons]
    cases hc : (rd l i == rd l' i)
    · simp
    · simpa using ih
theorem all_range (l l' : List Int) (h : l.length = 32) (h' : l'.length = 32) : ((List.range 32).all fun i => rd l i == rd l' i) = decide (l = l') := by
  by_cases he : l = l'
  · subst he; simp
  · rw [decide_eq_false he]
    cases hc : ((List.range 32).all fun i => rd l i == rd l' i)
    · rfl
    · exfalso
      refine he (List.ext_getElem (by omega) fun i h1 h2 => ?_)
      have := List.all_eq_true.1 hc i (by simp; omega)
      simp [rd, h1, h2] at this
      exact this
theorem cells5 : Try.prog.cellsOf 5 = 1 := by kernel_rfl
theorem info5e : ∃ i, Try.prog.info? 5 = some i := by
  have h : (Try.prog.info? 5).isSome = true := by kernel_rfl
  exact Option.isSome_iff_exists.1 h
theorem eq32 (w : World) (l l' : List Int) (h : l.length = 32) (h' : l'.length = 32) :
    (Op.equalIn 10000 23 (.agg (l.map (Value.int .u8)).toArray) (.agg (l'.map (Value.int .u8)).toArray)).run Try.prog w = .ok (decide (l = l')) w := by
  obtain ⟨i, hi⟩ := info5e
  rw [run_equalIn_array w 9999 _ _ Try.underlying23 hi, cells5, run_items w 9998 l l' _ (fun i hi => by have := List.mem_range.1 hi; omega), all_range l l' h h']
end Go.Proofs.Ytcpcellocnojcaa

import Derived.Test.YtighpoelpedneaaBackN
namespace Go.Proofs.Ytighpoelpedneaa
open Go Go.RowKit Go.Proofs.YtighpoelpedneaaW.PrintWords
set_option linter.unusedVariables false
set_option linter.unusedSimpArgs false

def zer : Nat → ByteArray
  | 0 => ⟨#[]⟩
  | _ => ⟨#[0, 0]⟩
/-- append of 'make([]byte, 2 * cut)': what the run comes to. -/
theorem run_app_zeros {W : World} {base : Nat} (ty : TypeId) (v : Value) (xs : List Int) (j : Nat) (hj : j < 2)
    (HO0 : (Kd.int .u8).R 5 W base (fun _ => True) v xs) (hbase : base ≤ W.heap.size) (hl : xs.length ≤ 1000000) :
    ∃ v1 w1, (Builtin.append_ #[22, 3] ty #[v, .int .i64 (2 * (j : Int))]).run Try.prog W = .ok v1 w1 ∧ (Kd.int .u8).R 5 w1 base (fun _ => True) v1 (xs ++ bytesOf (zer j)) ∧ W.grownBy w1 v.ownBlock := by
  have hz : (zer j).size ≤ 2 := by
    match j with
    | 0 => decide
    | _ + 1 => exact Nat.le_refl 2
  obtain ⟨v1, w1, hr, h1, hg⟩ := run_app_str ty v xs (zer j) HO0 hbase (by omega)
  refine ⟨v1, w1, ?_, h1, hg⟩
  rw [← hr]
  obtain ⟨i0, hi, hzz⟩ := Option.map_eq_some_iff.1 info5
  simp only [Prod.mk.injEq] at hzz
  obtain ⟨hz0, hz1, hz2⟩ := hzz
  have ht := Try.underlying22
  have h3 := Try.underlying3
  have h9 := Try.underlying9
  have HO := own_int_of_R HO0
  have hs0 : (zer 0).size = 0 := rfl
  have hs1 : (zer 1).size = 2 := rfl
  have f0 : ∀ n, ((zer 0).extract 0 n).data.map (fun b => Value.int .u8 b.toNat) = #[] := fun n => by simp [zer]
  have f1 : ((zer 1).extract 0 2).data.map (fun b => Value.int .u8 b.toNat) = #[.int .u8 0, .int .u8 0] := by kernel_rfl
  have f2 : List.take 2 (List.map (fun b : UInt8 => Value.int .u8 b.toNat) (zer 1).data.toList) = [.int .u8 0, .int .u8 0] := by rfl
  have f3 : (Array.map (fun b : UInt8 => Value.int .u8 b.toNat) (zer 1).data).extract 0 2 = #[.int .u8 0, .int .u8 0] := by kernel_rfl
  have hmx : ¬ (9223372036854775807 : Int) < max 2 0 := by decide
  have zc : Builtin.zeroCells #[Value.int .u8 0] 2 = #[.int .u8 0, .int .u8 0] := by kernel_rfl
  have z1 : (Value.int .u8 0).cells = #[Value.int .u8 0] := rfl
  obtain rfl | rfl : j = 0 ∨ j = 1 := by omega
  · rcases HO.2 with ⟨rfl, hn⟩ | ⟨g, cap, cur, rfl, _, _, hnc, hcap, _⟩
    · simp [Builtin.append_, run_underlying ht, run_underlying h3, run_underlying h9, sizeOf, typeInfo, hi, hz0, hz1, hz2, Builtin.lenOf, Builtin.firstCells, hs0, f0, IntKind.wrap_i64, asInt, asIntOf]
    · simp [Builtin.append_, run_underlying ht, run_underlying h3, run_underlying h9, sizeOf, typeInfo, hi, hz0, hz1, hz2, Builtin.lenOf, Builtin.firstCells, hs0, f0, IntKind.wrap_i64, asInt, asIntOf, hnc]
  · rcases HO.2 with ⟨rfl, hn⟩ | ⟨g, cap, cur, rfl, _, _, hnc, hcap, _⟩
    · have h2 : ¬ 281474976710656 < Builtin.nextslicecap 2 0 := by
        have := growslice_fits (need := 2) (old := 0) (bytes := 1) (by omega) (by omega)
        omega
      simp [Builtin.append_, run_underlying ht, run_underlying h3, run_underlying h9, sizeOf, typeInfo, hi, hz0, hz1, hz2, Builtin.lenOf, Builtin.firstCells, hs1, f1, IntKind.wrap_i64, asInt, asIntOf, zc, z1, zeroValue, h2, f2, f3, hmx]
    · by_cases hc : xs.length + 2 ≤ cap
      · simp [Builtin.append_, run_underlying ht, run_underlying h3, run_underlying h9, sizeOf, typeInfo, hi, hz0, hz1, hz2, Builtin.lenOf, Builtin.firstCells, hs1, f1, IntKind.wrap_i64, asInt, asIntOf, zc, z1, zeroValue, hc, f2]
      · have h2 : ¬ 281474976710656 < Builtin.nextslicecap (xs.length + 2) cap := by
          have := growslice_fits (need := xs.length + 2) (old := cap) (bytes := 1) (by omega) (by omega)
          omega
        have hm2 : ¬ (9223372036854775807 : Int) < xs.length + max 2 0 := by rw [show max (2:Int) 0 = 2 from rfl]; omega
        have h4 : ¬ (9223372036854775807 : Int) < xs.length + 2 := by omega
        simp [Builtin.append_, run_underlying ht, run_underlying h3, run_underlying h9, sizeOf, typeInfo, hi, hz0, hz1, hz2, Builtin.lenOf, Builtin.firstCells, hs1, f1, IntKind.wrap_i64, asInt, asIntOf, zc, z1, zeroValue, hc, h2, h4, f2, f3, hm2]
end Go.Proofs.Ytighpoelpedneaa

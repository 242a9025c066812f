/- 'ShaParts': for every input the law returns true and the arguments read as before. No condition. -/
import Derived.Test.YtcpcellocnojcaaRows
import Derived.Test.YtcpcellocnojcaaArgs
import Derived.Test.YtcpcellocnojcaaParts
namespace Go.Proofs.Ytcpcellocnojcaa.ShaPartsRow
open Go.ChangeShapes Go.WideShapes Go.ChangeAt Go.RowKit Go.Proofs.YtcpcellocnojcaaW.PrintWords
open Go.ChangeMaps (open_string shut_string)
set_option linter.unusedVariables false
set_option linter.unusedSimpArgs false
set_option maxRecDepth 100000 in
theorem lifted (os : Os) (started : os.Started) (H : Type) (enc : TypeId × Value → H) :
    ReturnsInHanded {} Try.checked os 8 .any (Rows.shaPartsSpec.pre6 enc Try.prog Try.f8 Rows.shaPartsRow.domain false) (Rows.shaPartsSpec.post enc Try.prog Try.f8 false true false false) := by
  refine returnsInHanded_of_change_sized (C := Try.checked) own started (by kernel_rfl) Try.func8
    (ChangeSpec.witness6 (enc := enc) (C := Try.checked) false ⟨#[], #[.slice none 0 0, .slice none 0 0, .slice none 0 0], []⟩ 8 (by kernel_rfl) (by kernel_rfl) (by kernel_rfl) (by kernel_rfl)) ?_
  intro W base args ds gs before hval0 hW hcnd hsz0 _
  have hsz : (DataW.weightsEach Try.prog (Try.f8.params.toList ++ Rows.shaPartsSpec.plain.varTypes Try.prog) (ds ++ gs)).all (· ≤ reachBytes) = true := hsz0
  have hval : ∀ (j : Nat) t v, Try.f8.params[j]? = some t → args[j]? = some v → Value.okWide Try.prog W .any base t v := hval0
  have hW' := hW
  obtain ⟨p, q, hA0, hV, rfl, hfz, hnd⟩ := hW
  have hA : DataW.TrodAll enc Try.prog W 0 (fun _ => true) true Try.f8.params.toList args.toList ds p := hA0
  rw [Try.params8] at hA hval hsz
  obtain ⟨v0, vs0, d0, ds0, p0, q0, hargs, rfl, rfl, h0, r0⟩ := trodAll_cons hA
  obtain ⟨v1, vs1, d1, ds1, p1, q1, rfl, rfl, rfl, h1, r1⟩ := trodAll_cons r0
  obtain ⟨v2, vs2, d2, ds2, p2, q2, rfl, rfl, rfl, h2, r2⟩ := trodAll_cons r1
  obtain ⟨rfl, rfl, rfl⟩ := trodAll_nil r2
  obtain rfl : args = #[v0, v1, v2] := by cases args; simp_all
  obtain ⟨rfl, rfl⟩ := trodVars_none hV
  have k0 := h0
  have lt0 := arg_lt h0
  obtain ⟨a0, c0, l0, rfl, hr0, hc0, hw0, hb0⟩ := arg_ints (k := .u8) (B := 1) Try.underlying32 Try.underlying5 (by kernel_rfl) (by kernel_rfl) (hval 0 32 v0 rfl rfl) h0 hsz (j := 0) (t := 32) rfl rfl
  have k1 := h1
  have lt1 := arg_lt h1
  obtain ⟨a1, c1, l1, rfl, hr1, hc1, hw1, hb1⟩ := arg_ints (k := .u8) (B := 1) Try.underlying32 Try.underlying5 (by kernel_rfl) (by kernel_rfl) (hval 1 32 v1 rfl rfl) h1 hsz (j := 1) (t := 32) rfl rfl
  have k2 := h2
  have lt2 := arg_lt h2
  obtain ⟨a2, c2, l2, rfl, hr2, hc2, hw2, hb2⟩ := arg_ints (k := .u8) (B := 1) Try.underlying32 Try.underlying5 (by kernel_rfl) (by kernel_rfl) (hval 2 32 v2 rfl rfl) h2 hsz (j := 2) (t := 32) rfl rfl
  clear hA0 hval0 hsz0 hsz
  refine (ShaParts_walk a0 c0 l0 a1 c1 l1 a2 c2 l2 W hr0 hc0 hw0 hb0 hr1 hc1 hw1 hb1 hr2 hc2 hw2 hb2).mono fun e W' ⟨he, bel⟩ => ?_
  subst he
  exact ⟨_, rfl, _, _, _, [], _, [], hW', trodAll_mk1 (shut_bool Try.underlying4 _), (trodAll_cons_mk (Below.trod laidOut (by kernel_rfl) (of_decide_eq_true (by kernel_rfl)) k0 bel lt0) (trodAll_cons_mk (Below.trod laidOut (by kernel_rfl) (of_decide_eq_true (by kernel_rfl)) k1 bel lt1) (trodAll_cons_mk (Below.trod laidOut (by kernel_rfl) (of_decide_eq_true (by kernel_rfl)) k2 bel lt2) trodAll_mk0))), rfl, bel.frame _, fun h => by cases h⟩
theorem over : Rows.shaPartsRow.holds Try.pinned (OpenSpec.ofChange Rows.shaPartsSpec) :=
  OpenClaim.holds_of_wide 8 Try.f8 rfl rfl rfl rfl rfl rfl rfl ⟨rfl, rfl, rfl, rfl, rfl⟩ rfl rfl rfl rfl rfl (by kernel_rfl) Try.func8 (by kernel_rfl)
    (of_decide_eq_true (by kernel_rfl)) (by unfold Func.isWrapper; first | (rw [if_pos (by decide +kernel)]; kernel_rfl) | (rw [if_neg (by decide +kernel)]; exact ⟨rfl, rfl⟩))
    (fun os started H enc _ => lifted os started H enc)
end Go.Proofs.Ytcpcellocnojcaa.ShaPartsRow
namespace Go.Proofs.Ytcpcellocnojcaa
theorem ShaParts_holds : Rows.ShaPartsSaid := ShaPartsRow.over
#print axioms ShaParts_holds
end Go.Proofs.Ytcpcellocnojcaa

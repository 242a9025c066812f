import Derived.Test.YtighpoelpedneaaRFour
namespace Go.Proofs.Ytighpoelpedneaa
open Go Go.RowKit Go.Proofs.YtighpoelpedneaaW.PrintWords
set_option linter.unusedVariables false
set_option linter.unusedSimpArgs false

/-- A new reader. -/
def NewRd (w : World) (l : List Int) (e : Ending) (w' : World) : Prop := ∃ g, e = .returned (.pointer (some ⟨g, 0, none⟩)) ∧ Rd w w' g l false ∧ Below w.heap.size w w'
theorem read_any (A : Option Addr) (c : Nat) (l : List Int) (w : World) (hr : (Kd.int .u8).C w A l.length l) (hb : l.length ≤ 140737488355328) :
    Calls Try.prog 24 #[.slice A l.length c] w (NewRd w l) := by
  have HC := Aside0.mk (clone_any A c l w hr hb)
  clear hr hb
  go_enter Try.func24, Try.ntmps24
  go_wp2_with (first | (go_at_call 39; refine HC.out.mono ?_; rintro e w1 ⟨v1, rfl, ho, hb1⟩; have hlt := Kd.R_lt ho; obtain ⟨A1, c1, rfl, hc1, hC1⟩ := Kd.R_reads ho; have HL := Aside0.mk hlt; have HC1 := Aside0.mk hC1; have HB1 := Aside0.mk hb1; have HN := Aside0.mk hc1; clear hlt ho hb1 hC1 hc1))
  go_ret
  refine ⟨w1.heap.size, rfl, ⟨⟨A1, c1, heap_alloc_new w1 _, Kd.C_below HC1.out (below_alloc (Below.refl _ _) _), HN.out, fun ad h => ?_⟩, HB1.out.size, below_alloc HB1.out _⟩, below_alloc HB1.out _⟩
  subst h
  exact HL.out _ rfl

theorem Rd.base {w0 w1 w : World} {g : Nat} {l : List Int} {bad : Bool} (h : Rd w1 w g l bad) (hb : Below w0.heap.size w0 w1) : Rd w0 w g l bad :=
  ⟨h.ex, Nat.le_trans hb.size h.lo, below_step hb h.below⟩
theorem reading_any (w : World) :
    Calls Try.prog 25 #[] w fun e w' => e = .returned (.bool true) ∧ Below w.heap.size w w' := by
  go_enter Try.func25, Try.ntmps25
  go_wp2_with fail
  refine (read_any (some ⟨w.heap.size, 0, none⟩) 4 [172, 2, 1, 97] _ (C_lit w _ 5 [172, 2, 1, 97] rfl (by decide)) (by decide)).mono ?_
  rintro e w1 ⟨g, rfl, hr, hb⟩
  have HR := Aside0.mk (hr.base (below_alloc (Below.refl w.heap.size w) _))
  clear hr hb
  go_wp2_with fail
  refine (rdNum_any w w1 g [172, 2, 1, 97] false 1000 HR.out (by intro x hx; simp at hx; omega) (by decide)).mono ?_
  rintro e w2 ⟨rfl, hr2, hg2⟩
  have e2 : numR 1000 [172, 2, 1, 97] false = (300, [1, 97], false) := by decide +kernel
  rw [e2] at hr2 ⊢
  have HR2 := Aside0.mk hr2
  clear hr2 hg2 e2
  go_wp2_with fail
  refine (rdText_any w w2 g [1, 97] false 1 HR2.out (by intro x hx; simp at hx; omega) (by decide)).mono ?_
  rintro e w3 ⟨rfl, hr3, hg3⟩
  have e3 : textR 1 [1, 97] false = ([97], [], false) := by decide +kernel
  have e4 : strOfNums [97] = ⟨#[97]⟩ := by decide +kernel
  rw [e3] at hr3 ⊢
  rw [e4]
  have HR3 := Aside0.mk hr3
  clear hr3 hg3 e3 e4
  go_wp2_with fail
  refine (done_any w w3 g [] false HR3.out).mono ?_
  rintro e w4 ⟨rfl, rfl⟩
  go_wp2_with fail
  refine (good_any w w3 g [] false HR3.out).mono ?_
  rintro e w4 ⟨rfl, rfl⟩
  go_wp2
  go_ret
  exact ⟨rfl, HR3.out.below⟩
end Go.Proofs.Ytighpoelpedneaa

import Derived.Test.YtighpoelpedneaaSumB
import Derived.Test.YtighpoelpedneaaArgs
namespace Go.Proofs.Ytighpoelpedneaa
open Go.RowKit Go.Proofs.YtighpoelpedneaaW.PrintWords
set_option linter.unusedVariables false
set_option linter.unusedSimpArgs false

/-- A block of numbers reads as its list. -/
theorem C_block {k : IntKind} {w : World} {g : Nat} {cs : Array Value} {t : TypeId} {fr : Nat × Nat} (h : w.heap[g]? = some (.cells cs t fr)) (xs : List Int) (hx : ∀ j, j < xs.length → cs[j]? = some (.int k (xs.getD j 0)))
    (hl : xs.length ≤ 9223372036854775807) : (Kd.int k).C w (some ⟨g, 0, none⟩) xs.length xs :=
  Kd.C_of_reads (d := (0 : Int)) (h1 := fun _ => rfl) ⟨rfl, hl, fun _ => ⟨_, rfl, fun j hj => by rw [add_plain]; simp only [World.cell?, h]; exact hx j hj⟩⟩
theorem C_new {k : IntKind} (w : World) (cs : Array Value) (t : TypeId) (fr : Nat × Nat) (xs : List Int) (hx : ∀ j, j < xs.length → cs[j]? = some (.int k (xs.getD j 0)))
    (hl : xs.length ≤ 9223372036854775807) : (Kd.int k).C (w.alloc (.cells cs t fr)) (some ⟨w.heap.size, 0, none⟩) xs.length xs :=
  C_block (heap_alloc_new w _) xs hx hl

def nine : List Int := [49, 50, 51, 52, 53, 54, 55, 56, 57]
theorem nine_sum : encSum nine = 3421780262 := by decide +kernel

theorem summing_any (w : World) :
    Calls Try.prog 10 #[] w fun e w' => e = .returned (.bool true) ∧ Below w.heap.size w w' := by
  have hcv := fun (w : World) (C : Array Value) (n c : Nat) => Lib.run_convert_bytes_const (P := Try.prog) w 22 5 C n c Try.underlying22 Try.underlying5
  have hs := Aside0.mk nine_sum
  go_enter Try.func10, Try.ntmps10
  go_wp2_with fail
  refine (encSum_any _ 9 nine _ (C_new _ _ _ _ nine ?_ (by decide))).mono ?_
  · intro j hj
    have : j < 9 := hj
    match j, this with
    | 0, _ => rfl
    | 1, _ => rfl
    | 2, _ => rfl
    | 3, _ => rfl
    | 4, _ => rfl
    | 5, _ => rfl
    | 6, _ => rfl
    | 7, _ => rfl
    | 8, _ => rfl
  · rintro e w' ⟨rfl, rfl⟩
    rw [hs.out]
    go_wp2
    go_ret
    exact ⟨rfl, (Below.refl _ _).alloc (Nat.le_refl _) _⟩
theorem EncSums_walk (A0 : Option Addr) (c0 : Nat) (l0 : List Int) (w : World) (hr0 : Kd.C (Kd.int .u8) w A0 l0.length l0) (hc0 : l0.length ≤ c0) (hw0 : ∀ x ∈ l0, (Lit.int .u8 x).wf = true) (hb0 : l0.length * 1 ≤ 140737488351232) :
    Calls Try.prog 3 #[.slice A0 l0.length c0] w fun e w' => e = .returned (.bool true) ∧ Below w.heap.size w w' := by
  have HR0 := Aside0.mk hr0
  have HE := Aside0.mk (refSum_eq l0 (fun x hx => wf_u8 (hw0 x hx)))
  clear hr0 hb0 hc0 hw0
  go_enter Try.func3, Try.ntmps3
  go_wp2_with (first | (go_at_call 10; refine (summing_any _).mono ?_; rintro e w1 ⟨rfl, hb⟩; have HB := Aside0.mk hb; clear hb))
  refine (encSum_any _ _ _ _ (Kd.C_below HR0.out HB.out)).mono ?_
  rintro e w' ⟨rfl, rfl⟩
  go_wp2_with fail
  refine (refSum_any _ _ _ _ (Kd.C_below HR0.out HB.out)).mono ?_
  rintro e w' ⟨rfl, rfl⟩
  rw [HE.out]
  go_wp2
  go_ret
  exact ⟨rfl, HB.out⟩

end Go.Proofs.Ytighpoelpedneaa

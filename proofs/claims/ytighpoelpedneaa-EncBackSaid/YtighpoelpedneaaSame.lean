import Derived.Test.YtighpoelpedneaaSumA
namespace Go.Proofs.Ytighpoelpedneaa
open Go.RowKit Go.Proofs.YtighpoelpedneaaW.PrintWords
set_option linter.unusedVariables false
set_option linter.unusedSimpArgs false

theorem ret_bool {a b : Bool} (h : a = b) : Ending.returned (.bool a) = .returned (.bool b) := by rw [h]
theorem take_next {α : Type} (z : α) (a b : List α) (k : Nat) (ha : k < a.length) (hb : k < b.length) (h : a.take k = b.take k) (e : a.getD k z = b.getD k z) : a.take (k + 1) = b.take (k + 1) := by
  rw [List.take_succ_eq_append_getElem ha, List.take_succ_eq_append_getElem hb, h]
  simp [List.getD_eq_getElem?_getD, ha, hb] at e
  rw [e]
theorem C_drewN {α : Type} {d : Kd α} {w : World} {A : Option Addr} {n : Nat} {xs : List α} (h : d.C w A n xs) (m : Nat) : d.C (w.drewN m) A n xs :=
  Kd.C_below h (pw_below_drewN (Below.refl _ _) m)
theorem sameBytes_any (A0 : Option Addr) (c0 : Nat) (l0 : List Int) (A1 : Option Addr) (c1 : Nat) (l1 : List Int) (w : World) (hr0 : Kd.C (Kd.int .u8) w A0 l0.length l0) (hr1 : Kd.C (Kd.int .u8) w A1 l1.length l1) :
    Calls Try.prog 13 #[.slice A0 l0.length c0, .slice A1 l1.length c1] w fun e w' => e = .returned (.bool (decide (l0 = l1))) ∧ Drawn0 w w' := by
  have HR0 := Aside0.mk hr0
  have HR1 := Aside0.mk hr1
  have hl0 := C_len hr0
  clear hr0 hr1
  by_cases hl : l0.length = l1.length
  · have hlb : ((l0.length : Int) != (l1.length : Int)) = false := by rw [hl]; simp
    have HL := Aside0.mk hl
    clear hl
    go_enter Try.func13, Try.ntmps13
    go_wp2
    go_loopw [5] (fun i wr => ∃ k : Nat, k ≤ l0.length ∧ i = .int .i64 k ∧ Aside0 (l0.take k = l1.take k) ∧ Drawn0 w wr) (fun i _ => l0.length - (intOf i).toNat)
    case atStart => exact ⟨0, by omega, rfl, ⟨rfl⟩, Drawn0.refl _⟩
    case round =>
      obtain ⟨k, hkl, rfl, HT, ⟨nn, rfl⟩⟩ := hrel
      by_cases hk : k < l0.length
      · have hk1 : k < l1.length := HL.out ▸ hk
        obtain ⟨ad0, rfl, hx0⟩ := at_nat HR0.out k hk
        obtain ⟨ad1, rfl, hx1⟩ := at_nat HR1.out k hk1
        by_cases he : rd l0 k = rd l1 k
        · have heb : (rd l0 k != rd l1 k) = false := by rw [he]; simp
          have HN := Aside0.mk (take_next (0 : Int) l0 l1 k hk hk1 HT.out he)
          clear he
          go_wp2
          go_quiet (fail)
          go_wp2
          go_roundw
          case rel => exact ⟨k + 1, by omega, by go_num, HN, by repeat (first | exact Drawn0.refl _ | apply Drawn0.step)⟩
          case measure => simp [intOf]; omega
        · have heb : (rd l0 k != rd l1 k) = true := by simpa using he
          have HN := Aside0.mk (show decide (l0 = l1) = false by simp; rintro rfl; exact he rfl)
          clear he
          go_wp2
          go_quiet (fail)
          go_wp2
          go_ret
          exact ⟨ret_bool HN.out.symm, by repeat (first | exact Drawn0.refl _ | apply Drawn0.step)⟩
      · obtain rfl : k = l0.length := by omega
        have HN := Aside0.mk (show decide (l0 = l1) = true by
          have := HT.out
          rw [List.take_length, HL.out, List.take_length] at this
          simpa using this)
        go_wp2
        go_ret
        exact ⟨ret_bool HN.out.symm, by repeat (first | exact Drawn0.refl _ | apply Drawn0.step)⟩
  · have hlb : ((l0.length : Int) != (l1.length : Int)) = true := by simp; omega
    have HN := Aside0.mk (show decide (l0 = l1) = false by simp; intro h; exact hl (by rw [h]))
    clear hl
    go_enter Try.func13, Try.ntmps13
    go_wp2
    go_ret
    exact ⟨ret_bool HN.out.symm, Drawn0.refl _⟩
end Go.Proofs.Ytighpoelpedneaa

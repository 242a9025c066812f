import Derived.Test.YtighpoelpedneaaRId
namespace Go.Proofs.Ytighpoelpedneaa
open Go Go.RowKit Go.Proofs.YtighpoelpedneaaW.PrintWords
set_option linter.unusedVariables false
set_option linter.unusedSimpArgs false

/-- Four bytes read. -/
def fourR (l : List Int) (bad : Bool) : Int × List Int × Bool := if bad = true ∨ l.length < 4 then (0, [], true) else (rd l 0 + 256 * rd l 1 + 65536 * rd l 2 + 16777216 * rd l 3, l.drop 4, false)
theorem or_mul4 (a b i m : Nat) (hm : m = 2 ^ i) (h : a < m) : a ||| (b * m) = b * m + a := by
  subst hm
  rw [Nat.or_comm, ← Nat.shiftLeft_eq, Nat.shiftLeft_add_eq_or_of_lt h]
theorem le32 (x0 x1 x2 x3 : Int) (a0 : 0 ≤ x0) (b0 : x0 < 256) (a1 : 0 ≤ x1) (b1 : x1 < 256) (a2 : 0 ≤ x2) (b2 : x2 < 256) (a3 : 0 ≤ x3) (b3 : x3 < 256) :
    bits BinOp.or IntKind.u32 (bits BinOp.or IntKind.u32 (bits BinOp.or IntKind.u32 x0 (x1 * 256)) (x2 * 65536)) (x3 * 16777216) = x0 + 256 * x1 + 65536 * x2 + 16777216 * x3 := by
  obtain ⟨n0, rfl⟩ := Int.eq_ofNat_of_zero_le a0
  obtain ⟨n1, rfl⟩ := Int.eq_ofNat_of_zero_le a1
  obtain ⟨n2, rfl⟩ := Int.eq_ofNat_of_zero_le a2
  obtain ⟨n3, rfl⟩ := Int.eq_ofNat_of_zero_le a3
  have e1 : ((n1 : Int) * 256) = ((n1 * 256 : Nat) : Int) := by omega
  have e2 : ((n2 : Int) * 65536) = ((n2 * 65536 : Nat) : Int) := by omega
  have e3 : ((n3 : Int) * 16777216) = ((n3 * 16777216 : Nat) : Int) := by omega
  rw [e1, e2, e3, u32_or_nat n0 (n1 * 256) (by omega) (by omega), or_mul4 n0 n1 8 256 (by decide) (by omega), u32_or_nat _ (n2 * 65536) (by omega) (by omega), or_mul4 _ n2 16 65536 (by decide) (by omega), u32_or_nat _ (n3 * 16777216) (by omega) (by omega), or_mul4 _ n3 24 16777216 (by decide) (by omega)]
  omega
theorem Rd.drewN {w0 w : World} {g : Nat} {l : List Int} {bad : Bool} (h : Rd w0 w g l bad) (n : Nat) : Rd w0 (w.drewN n) g l bad := by
  obtain ⟨⟨A, c, hb, hC, hc, hn⟩, h2, h3⟩ := h
  exact ⟨⟨A, c, hb, Kd.C_below hC (pw_below_drewN (Below.refl _ _) n), hc, hn⟩, h2, pw_below_drewN h3 n⟩
theorem grown_drewN {a w : World} {row : Option Nat} (h : a.grownBy w row) (n : Nat) : a.grownBy (w.drewN n) row := ⟨h.os, h.tape, h.output, h.size, h.block⟩
theorem rdFour_any (w0 w : World) (g : Nat) (l : List Int) (bad : Bool) (h : Rd w0 w g l bad) (hB : Bytes l) :
    Calls Try.prog 33 #[.pointer (some ⟨g, 0, none⟩)] w (RdPost w0 w g .u32 (fourR l bad)) := by
  have H := Aside0.mk h
  have hq := fun (W : World) (a : Option Addr) (n c : Nat) => Lib.run_eql_slice_nil (P := Try.prog) W 22 5 a n c 0 0 Try.underlying22
  by_cases hbad : bad = true ∨ l.length < 4
  · have HT := Aside0.mk (show fourR l bad = _ from if_pos hbad)
    have HBB := Aside0.mk (show bad = true ∨ (l.length : Int) < 4 by rcases hbad with h | h; exact .inl h; exact .inr (by omega))
    clear hbad h hB
    go_enter Try.func33, Try.ntmps33
    go_wp2_with (first | (go_at_call 41; refine (take_no w0 _ g l bad 4 H.out HBB.out).mono ?_; rintro e w' ⟨rfl, hr, hg⟩; have HR := Aside0.mk hr; have HG := Aside0.mk hg; clear hr hg))
    go_ret
    exact ⟨by rw [HT.out]; rfl, by rw [HT.out]; exact HR.out, HG.out⟩
  · have HT := Aside0.mk (show fourR l bad = _ from if_neg hbad)
    have hbf : bad = false := by cases bad with | true => exact absurd (.inl rfl) hbad | false => rfl
    subst hbf
    have HLN := Aside0.mk (show 4 ≤ l.length by rcases Nat.lt_or_ge l.length 4 with h | h; exact absurd (.inr h) hbad; exact h)
    have HBY := Aside0.mk hB
    clear hbad h hB
    go_enter Try.func33, Try.ntmps33
    go_wp2_with (first | (go_at_call 41; refine (take_ok w0 _ g l 4 H.out HLN.out).mono ?_; rintro e w1 ⟨A, c, rfl, hc, hn, hne, hr, hg⟩; have HR := Aside0.mk hr; have HG := Aside0.mk hg; have HC := Aside0.mk hc; have hn := hn (by decide); obtain ⟨ad, rfl⟩ : ∃ ad, A = some ad := (by cases A with | none => cases hn | some a => exact ⟨a, rfl⟩); clear hr hg hc hne hn))
    obtain ⟨_, e0, x0⟩ := at_nat HC.out 0 (by decide)
    obtain ⟨_, e1, x1⟩ := at_nat HC.out 1 (by decide)
    obtain ⟨_, e2, x2⟩ := at_nat HC.out 2 (by decide)
    obtain ⟨_, e3, x3⟩ := at_nat HC.out 3 (by decide)
    cases e0; cases e1; cases e2; cases e3
    have h0 : ad.add 0 = ad := by unfold Addr.add; rfl
    rw [h0] at x0
    have hb : ∀ i : Nat, i < 4 → rd (l.take 4) (i : Int) = rd l (i : Int) ∧ 0 ≤ rd l (i : Int) ∧ rd l (i : Int) < 256 := fun i hi => by
      have hl := HLN.out
      have hm := HBY.out (rd l i) (by unfold rd; rw [Int.toNat_natCast, List.getD_eq_getElem?_getD, List.getElem?_eq_getElem (by omega)]; exact List.getElem_mem _)
      refine ⟨?_, hm⟩
      unfold rd
      rw [Int.toNat_natCast, List.getD_eq_getElem?_getD, List.getElem?_take, if_pos hi, List.getD_eq_getElem?_getD]
    obtain ⟨r0, b00, b01⟩ := hb 0 (by decide)
    obtain ⟨r1, b10, b11⟩ := hb 1 (by decide)
    obtain ⟨r2, b20, b21⟩ := hb 2 (by decide)
    obtain ⟨r3, b30, b31⟩ := hb 3 (by decide)
    rw [r0] at x0
    rw [r1] at x1
    rw [r2] at x2
    rw [r3] at x3
    clear r0 r1 r2 r3 h0 hb
    obtain ⟨y0, hy0⟩ : ∃ y, rd l ((0 : Nat) : Int) = y := ⟨_, rfl⟩
    obtain ⟨y1, hy1⟩ : ∃ y, rd l ((1 : Nat) : Int) = y := ⟨_, rfl⟩
    obtain ⟨y2, hy2⟩ : ∃ y, rd l ((2 : Nat) : Int) = y := ⟨_, rfl⟩
    obtain ⟨y3, hy3⟩ : ∃ y, rd l ((3 : Nat) : Int) = y := ⟨_, rfl⟩
    rw [hy0] at x0 b00 b01
    rw [hy1] at x1 b10 b11
    rw [hy2] at x2 b20 b21
    rw [hy3] at x3 b30 b31
    have HY := Aside0.mk (show rd l 0 + 256 * rd l 1 + 65536 * rd l 2 + 16777216 * rd l 3 = y0 + 256 * y1 + 65536 * y2 + 16777216 * y3 by rw [← hy0, ← hy1, ← hy2, ← hy3]; rfl)
    clear hy0 hy1 hy2 hy3
    rw [show ad.add 1 = { ad with off := ad.off + 1, spot := none } from rfl] at x1
    rw [show ad.add 2 = { ad with off := ad.off + 2, spot := none } from rfl] at x2
    rw [show ad.add 3 = { ad with off := ad.off + 3, spot := none } from rfl] at x3
    go_quiet (fail)
    go_wp2
    go_ret
    rw [HT.out]
    refine ⟨?_, HR.out.drewN nq, grown_drewN HG.out nq⟩
    show Ending.returned (.int .u32 (bits BinOp.or .u32 (bits BinOp.or .u32 (bits BinOp.or .u32 y0 (y1 * 256)) (y2 * 65536)) (y3 * 16777216))) = .returned (.int .u32 (rd l 0 + 256 * rd l 1 + 65536 * rd l 2 + 16777216 * rd l 3))
    rw [HY.out, le32 y0 y1 y2 y3 b00 b01 b10 b11 b20 b21 b30 b31]
end Go.Proofs.Ytighpoelpedneaa

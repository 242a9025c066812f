import Derived.Test.YtighpoelpedneaaRNum
namespace Go.Proofs.Ytighpoelpedneaa
open Go Go.RowKit Go.Proofs.YtighpoelpedneaaW.PrintWords
set_option linter.unusedVariables false
set_option linter.unusedSimpArgs false

theorem z62 : (0 : Int) ≤ 4611686018427387904 := by decide
def numR (most : Int) (l : List Int) (bad : Bool) : Int × List Int × Bool := if bad then (0, [], true) else rnum most 9 1 0 l
theorem rdNum_any (w0 w : World) (g : Nat) (l : List Int) (bad : Bool) (most : Int) (h : Rd w0 w g l bad) (hB : Bytes l) (hm : (Lit.int .i64 most).wf = true) :
    Calls Try.prog 27 #[.pointer (some ⟨g, 0, none⟩), .int .i64 most] w (RdPost w0 w g .i64 (numR most l bad)) := by
  cases bad with
  | false => exact rdNum_ok w0 w g l most h hB hm
  | true =>
    have H := Aside0.mk h
    have hq := fun (W : World) (a : Option Addr) (n c : Nat) => Lib.run_eql_slice_nil (P := Try.prog) W 22 5 a n c 0 0 Try.underlying22
    clear h hB
    go_enter Try.func27, Try.ntmps27
    go_wp2
    refine wp_loop_rounds 1 ?_
    rw [rounds_succ]
    go_wp2_with (first | (go_at_call 41; refine (take_no w0 _ g l true 1 H.out (.inl rfl)).mono ?_; rintro e w' ⟨rfl, hr, hg⟩; have HR2 := Aside0.mk hr; have HG2 := Aside0.mk hg; clear hr hg))
    go_ret
    exact ⟨rfl, HR2.out, HG2.out⟩
theorem rnum_bytes (most : Int) (f : Nat) : ∀ (p u : Int) (l : List Int), Bytes l → Bytes (rnum most f p u l).2.1 ∧ ((rnum most f p u l).2.2 = true → (rnum most f p u l) = (0, [], true)) := by
  induction f with
  | zero => intro p u l _; exact ⟨(fun x hx => by cases hx), fun _ => rfl⟩
  | succ f ih =>
    intro p u l hl
    cases l with
    | nil => exact ⟨(fun x hx => by cases hx), fun _ => rfl⟩
    | cons b t =>
      have ht : Bytes t := fun z hz => hl z (List.mem_cons_of_mem _ hz)
      by_cases h : 127 < b
      · rw [rnum_more h]; exact ih _ _ _ ht
      · by_cases h' : 4611686018427387904 < u + b % 128 * p ∨ most < u + b % 128 * p ∨ (b = 0 ∧ 1 < p)
        · rw [rnum_bad h h']; exact ⟨(fun x hx => by cases hx), fun _ => rfl⟩
        · rw [rnum_good h h']; exact ⟨ht, (fun h => by cases h)⟩
theorem rnum_range (most : Int) (f : Nat) : ∀ (p u : Int) (l : List Int), Bytes l → 0 ≤ p → 0 ≤ u → 0 ≤ (rnum most f p u l).1 ∧ (rnum most f p u l).1 ≤ 4611686018427387904 ∧ ((rnum most f p u l).2.2 = false → (rnum most f p u l).1 ≤ most) := by
  induction f with
  | zero => intro p u l _ _ _; exact ⟨Int.le_refl _, z62, (fun h => by cases h)⟩
  | succ f ih =>
    intro p u l hl hp hu
    cases l with
    | nil => exact ⟨Int.le_refl _, z62, (fun h => by cases h)⟩
    | cons b t =>
      have ht : Bytes t := fun z hz => hl z (List.mem_cons_of_mem _ hz)
      have hm : 0 ≤ b % 128 * p := Int.mul_nonneg (by omega) hp
      by_cases h : 127 < b
      · rw [rnum_more h]; exact ih _ _ _ ht (by omega) (by omega)
      · by_cases h' : 4611686018427387904 < u + b % 128 * p ∨ most < u + b % 128 * p ∨ (b = 0 ∧ 1 < p)
        · rw [rnum_bad h h']; exact ⟨Int.le_refl _, z62, (fun h => by cases h)⟩
        · rw [rnum_good h h']
          have h1 : ¬ 4611686018427387904 < u + b % 128 * p := fun k => h' (.inl k)
          have h2 : ¬ most < u + b % 128 * p := fun k => h' (.inr (.inl k))
          exact ⟨by show 0 ≤ u + b % 128 * p; omega, by show u + b % 128 * p ≤ _; omega, fun _ => by show u + b % 128 * p ≤ most; omega⟩
theorem numR_facts (most : Int) (l : List Int) (bad : Bool) (hB : Bytes l) : Bytes (numR most l bad).2.1 ∧ ((numR most l bad).2.2 = true → numR most l bad = (0, [], true)) ∧ 0 ≤ (numR most l bad).1 ∧ (numR most l bad).1 ≤ 4611686018427387904 := by
  cases bad with
  | true => exact ⟨(fun x hx => by cases hx), fun _ => rfl, Int.le_refl _, z62⟩
  | false =>
    obtain ⟨h1, h2⟩ := rnum_bytes most 9 1 0 l hB
    obtain ⟨h3, h4, _⟩ := rnum_range most 9 1 0 l hB (by decide) (by decide)
    exact ⟨h1, h2, h3, h4⟩

/-- A text read. -/
def textR (most : Int) (l : List Int) (bad : Bool) : List Int × List Int × Bool :=
  if (numR most l bad).2.2 = true ∨ ((numR most l bad).2.1.length : Int) < (numR most l bad).1 then ([], [], true)
  else ((numR most l bad).2.1.take (numR most l bad).1.toNat, (numR most l bad).2.1.drop (numR most l bad).1.toNat, false)
def RdTxt (w0 w : World) (g : Nat) (r : List Int × List Int × Bool) (e : Ending) (w' : World) : Prop :=
  e = .returned (.string (strOfNums r.1)) ∧ Rd w0 w' g r.2.1 r.2.2 ∧ w.grownBy w' (some g)
theorem rdText_any (w0 w : World) (g : Nat) (l : List Int) (bad : Bool) (most : Int) (h : Rd w0 w g l bad) (hB : Bytes l) (hm : (Lit.int .i64 most).wf = true) :
    Calls Try.prog 29 #[.pointer (some ⟨g, 0, none⟩), .int .i64 most] w (RdTxt w0 w g (textR most l bad)) := by
  have H := Aside0.mk h
  obtain ⟨f1, f2, f3, f4⟩ := numR_facts most l bad hB
  have HC := Aside0.mk (rdNum_any w0 w g l bad most h hB hm)
  have hst := fun W A c n xs (hc : (Kd.int .u8).C W A n xs) => (Kd.C_string (P := Try.prog) (w := W) (src := 22) (dst := 9) (e := 5) (c := c) (A := A) Try.underlying22 Try.underlying5 Try.underlying9 hc)
  have HS := Aside0.mk hst
  clear hst h hB
  obtain ⟨⟨n, r, b⟩, hr⟩ : ∃ q, numR most l bad = q := ⟨_, rfl⟩
  have HT := Aside0.mk (show textR most l bad = if b = true ∨ (r.length : Int) < n then ([], [], true) else (r.take n.toNat, r.drop n.toNat, false) by unfold textR; rw [hr])
  rw [hr] at f2 f3 f4 HC
  clear hr f1
  replace f3 : 0 ≤ n := f3
  replace f4 : n ≤ 4611686018427387904 := f4
  obtain ⟨m, rfl⟩ := Int.eq_ofNat_of_zero_le f3
  rw [Int.toNat_natCast] at HT
  by_cases hbad : b = true ∨ (r.length : Int) < m
  · have HT' := Aside0.mk (HT.out.trans (if_pos hbad))
    have HBB := Aside0.mk hbad
    clear HT hbad f2
    go_enter Try.func29, Try.ntmps29
    go_wp2_with fail
    refine HC.out.mono ?_
    rintro e w1 ⟨rfl, h1, g1⟩
    have H1 := Aside0.mk h1
    have G1 := Aside0.mk g1
    clear h1 g1
    go_wp2_with fail
    refine (take_no w0 _ g r b m H1.out HBB.out).mono ?_
    rintro e w2 ⟨rfl, h2, g2⟩
    have H2 := Aside0.mk h2
    have G2 := Aside0.mk g2
    clear h2 g2
    have hs2 := HS.out w2 none 0 0 [] (C_nil w2)
    go_wp2
    go_ret
    exact ⟨by rw [HT'.out]; rfl, by rw [HT'.out]; exact H2.out, grown_trans' G1.out G2.out⟩
  · have HT' := Aside0.mk (HT.out.trans (if_neg hbad))
    have hbf : b = false := by cases b with | true => exact absurd (.inl rfl) hbad | false => rfl
    subst hbf
    have HL := Aside0.mk (show m ≤ r.length by rcases Nat.lt_or_ge r.length m with h | h; exact absurd (.inr (by omega)) hbad; exact h)
    clear HT hbad f2
    go_enter Try.func29, Try.ntmps29
    go_wp2_with fail
    refine HC.out.mono ?_
    rintro e w1 ⟨rfl, h1, g1⟩
    have H1 := Aside0.mk h1
    have G1 := Aside0.mk g1
    clear h1 g1
    go_wp2_with fail
    refine (take_ok w0 _ g r m H1.out HL.out).mono ?_
    rintro e w2 ⟨A, c, rfl, hc, _, _, h2, g2⟩
    have H2 := Aside0.mk h2
    have G2 := Aside0.mk g2
    have hs2 := HS.out w2 A c m (r.take m) hc
    clear h2 g2 hc
    go_wp2
    go_ret
    exact ⟨by rw [HT'.out]; rfl, by rw [HT'.out]; exact H2.out, grown_trans' G1.out G2.out⟩
end Go.Proofs.Ytighpoelpedneaa

import Derived.Test.YtighpoelpedneaaRd
import Derived.Laws.BitsAllLaws
import Derived.Laws.Bits64
namespace Go.Proofs.Ytighpoelpedneaa
open Go Go.RowKit Go.Proofs.YtighpoelpedneaaW.PrintWords
set_option linter.unusedVariables false
set_option linter.unusedSimpArgs false

/-- A number read: at most f bytes more, the next one counts p; u: what was read. Its value, what is left, has it failed? -/
def rnum (most : Int) : Nat → Int → Int → List Int → Int × List Int × Bool
  | 0, _, _, _ => (0, [], true)
  | _ + 1, _, _, [] => (0, [], true)
  | f + 1, p, u, b :: t =>
    if 127 < b then rnum most f (p * 128) (u + b % 128 * p) t
    else if 4611686018427387904 < u + b % 128 * p ∨ most < u + b % 128 * p ∨ (b = 0 ∧ 1 < p) then (0, [], true) else (u + b % 128 * p, t, false)
theorem rnum_more {most : Int} {f : Nat} {p u b : Int} {t : List Int} (h : 127 < b) : rnum most (f + 1) p u (b :: t) = rnum most f (p * 128) (u + b % 128 * p) t := by
  show (if _ then _ else _) = _; rw [if_pos h]
theorem rnum_bad {most : Int} {f : Nat} {p u b : Int} {t : List Int} (h : ¬ 127 < b) (h' : 4611686018427387904 < u + b % 128 * p ∨ most < u + b % 128 * p ∨ (b = 0 ∧ 1 < p)) : rnum most (f + 1) p u (b :: t) = (0, [], true) := by
  show (if _ then _ else _) = _; rw [if_neg h, if_pos h']
theorem rnum_good {most : Int} {f : Nat} {p u b : Int} {t : List Int} (h : ¬ 127 < b) (h' : ¬ (4611686018427387904 < u + b % 128 * p ∨ most < u + b % 128 * p ∨ (b = 0 ∧ 1 < p))) : rnum most (f + 1) p u (b :: t) = (u + b % 128 * p, t, false) := by
  show (if _ then _ else _) = _; rw [if_neg h, if_neg h']
theorem pow128 (k : Nat) : ((128 ^ k : Nat) : Int) = (128 : Int) ^ k := by simp
/-- seven bits more -/
theorem or_step (k : Nat) (hk : k ≤ 8) (x b : Int) (hx0 : 0 ≤ x) (hx : x < 128 ^ k) (hb : 0 ≤ b ∧ b < 256) :
    Go.bits .or .u64 x (IntKind.u64.wrap (IntKind.u64.wrap (Go.bits .and .u8 b 127) * 2 ^ (7 * k))) = x + b % 128 * 128 ^ k ∧ x + b % 128 * 128 ^ k < 128 ^ (k + 1) ∧ (128 : Int) ^ (k + 1) ≤ 9223372036854775808 ∧ (1 : Int) ≤ 128 ^ k ∧ (1 < (128 : Int) ^ k ↔ 0 < k) := by
  obtain ⟨n, rfl⟩ := Int.eq_ofNat_of_zero_le hx0
  obtain ⟨m, rfl⟩ := Int.eq_ofNat_of_zero_le hb.1
  have hm : m < 256 := by omega
  have e1 : Go.bits .and .u8 (m : Int) 127 = ((m % 128 : Nat) : Int) := by
    have h := u8_and_nat m 127 hm (by decide)
    have h2 : m &&& 127 = m % 128 := by
      have := Nat.and_two_pow_sub_one_eq_mod m 7
      simpa using this
    rw [h2] at h
    exact h
  have hp : (128 : Nat) ^ k = 2 ^ (7 * k) := by rw [show (128 : Nat) = 2 ^ 7 from rfl, ← Nat.pow_mul]
  have hle : (128 : Nat) ^ (k + 1) ≤ 128 ^ 9 := Nat.pow_le_pow_right (by decide) (by omega)
  have h9 : (128 : Nat) ^ 9 = 9223372036854775808 := by decide
  have hn : n < 128 ^ k := by rw [← pow128] at hx; omega
  have hq : m % 128 * 128 ^ k + 128 ^ k ≤ 128 ^ (k + 1) := by
    have h1 : (m % 128 + 1) * 128 ^ k ≤ 128 * 128 ^ k := Nat.mul_le_mul_right _ (by omega)
    rw [Nat.pow_succ, Nat.mul_comm (128 ^ k) 128]
    rw [Nat.add_mul, Nat.one_mul] at h1
    exact h1
  have e2 : IntKind.u64.wrap ((m % 128 : Nat) : Int) = ((m % 128 : Nat) : Int) := by
    rw [IntKind.wrap_u64]; omega
  have e3 : ((m % 128 : Nat) : Int) * 2 ^ (7 * k) = ((m % 128 * 128 ^ k : Nat) : Int) := by
    rw [hp]; simp
  have e4 : IntKind.u64.wrap ((m % 128 * 128 ^ k : Nat) : Int) = ((m % 128 * 128 ^ k : Nat) : Int) := by
    rw [IntKind.wrap_u64]; omega
  have e5 : n ||| m % 128 * 128 ^ k = n + m % 128 * 128 ^ k := by
    rw [Nat.or_comm, nat_join (7 * k) _ _ (by rw [hp]; exact Nat.mul_mod_left _ _) (by rw [← hp]; exact hn), Nat.add_comm]
  have e6 : ((n + m % 128 * 128 ^ k : Nat) : Int) = (n : Int) + (m : Int) % 128 * 128 ^ k := by simp
  have h1 : 1 ≤ 128 ^ k := Nat.pos_of_ne_zero (by simp)
  refine ⟨?_, ?_, ?_, ?_, ?_⟩
  · rw [e1, e2, e3, e4, u64_or_nat _ _ (by omega) (by omega), e5, e6]
  · rw [← e6, ← pow128]; omega
  · rw [← pow128]; omega
  · rw [← pow128]; omega
  · rw [← pow128]
    constructor
    · intro h
      rcases Nat.eq_zero_or_pos k with h0 | h0
      · subst h0; simp at h
      · exact h0
    · intro h
      have : 128 ^ 1 ≤ 128 ^ k := Nat.pow_le_pow_right (by decide) h
      omega
/-- What a reader leaves that has answered r. -/
def RdPost (w0 w : World) (g : Nat) (k : IntKind) (r : Int × List Int × Bool) (e : Ending) (w' : World) : Prop :=
  e = .returned (.int k r.1) ∧ Rd w0 w' g r.2.1 r.2.2 ∧ w.grownBy w' (some g)

theorem first_cell {w : World} {ad : Addr} {b : Int} {t : List Int} (h : (Kd.int .u8).C w (some ad) 1 ((b :: t).take 1)) : w.cell? ad = some (.int .u8 b) := by
  obtain ⟨ad', e, hx⟩ := at_nat h 0 (by decide)
  injection e with e
  subst e
  have : ad.add 0 = ad := by unfold Addr.add; rfl
  rw [this] at hx
  exact hx
theorem rdNum_ok (w0 w : World) (g : Nat) (l : List Int) (most : Int) (h : Rd w0 w g l false) (hB : Bytes l) (hm : (Lit.int .i64 most).wf = true) :
    Calls Try.prog 27 #[.pointer (some ⟨g, 0, none⟩), .int .i64 most] w (RdPost w0 w g .i64 (rnum most 9 1 0 l)) := by
  have H := Aside0.mk h
  have HB := Aside0.mk hB
  have hq := fun (W : World) (a : Option Addr) (n c : Nat) => Lib.run_eql_slice_nil (P := Try.prog) W 22 5 a n c 0 0 Try.underlying22
  clear h hB
  go_enter Try.func27, Try.ntmps27
  go_wp2
  go_loopw [5, 6] (fun u s wr => ∃ (k f : Nat) (x : Int) (r : List Int), k + f = 9 ∧ u = .int .u64 x ∧ s = .int .i64 (7 * (k : Int)) ∧ 0 ≤ x ∧ Aside0 (x < 128 ^ k) ∧ Aside0 (Bytes r) ∧ Aside0 (rnum most f (128 ^ k) x r = rnum most 9 1 0 l) ∧ Aside0 (Rd w0 wr g r false) ∧ Aside0 (w.grownBy wr (some g))) (fun _ s _ => 63 - (intOf s).toNat)
  case atStart => exact ⟨0, 9, 0, l, rfl, rfl, rfl, by omega, ⟨by decide⟩, HB, ⟨rfl⟩, H, ⟨World.grownBy.refl _ _⟩⟩
  case round =>
    clear H HB
    obtain ⟨k, f, x, r, hkf, rfl, rfl, hx0, HX, HB, HE, HR, HG⟩ := hrel
    by_cases hk : k < 9
    · obtain ⟨f, rfl⟩ : ∃ f', f = f' + 1 := ⟨f - 1, by omega⟩
      have hk63 : 7 * (k : Int) < 63 := by omega
      cases r with
      | nil =>
        go_wp2_with (first | (go_at_call 41; refine (take_no w0 _ g [] false 1 HR.out (.inr (by simp))).mono ?_; rintro e w' ⟨rfl, hr, hg⟩; have HR2 := Aside0.mk hr; have HG2 := Aside0.mk hg; clear hr hg))
        go_ret
        have HE' : rnum most 9 1 0 l = (0, [], true) := by rw [← HE.out]; rfl
        exact ⟨by rw [HE']; rfl, by rw [HE']; exact HR2.out, grown_trans' HG.out HG2.out⟩
      | cons b t =>
        have hbb := HB.out b (by simp)
        have HBt := Aside0.mk (show Bytes t from fun z hz => HB.out z (List.mem_cons_of_mem _ hz))
        obtain ⟨o1, o2, o3, o4, o5⟩ := or_step k (by omega) x b hx0 HX.out hbb
        obtain ⟨y, hy⟩ : ∃ y, x + b % 128 * 128 ^ k = y := ⟨_, rfl⟩
        have hy0 : 0 ≤ y := by
          rw [← hy]
          have : 0 ≤ b % 128 * 128 ^ k := Int.mul_nonneg (by omega) (by omega)
          omega
        rw [hy] at o1 o2
        have hy63 : y < 9223372036854775808 := by omega
        have HY := Aside0.mk hy
        have HO2 := Aside0.mk o2
        have HO5 := Aside0.mk o5
        clear hy o2 o3 o4 o5
        obtain ⟨hb0, hb1⟩ := hbb
        by_cases hb127 : 127 < b
        · have HE' := Aside0.mk (show rnum most f (128 ^ (k + 1)) y t = rnum most 9 1 0 l by rw [← HE.out, rnum_more hb127, HY.out, Int.pow_succ])
          clear HE
          go_wp2_with (first | (go_at_call 41; refine (take_ok w0 _ g (b :: t) 1 HR.out (by simp)).mono ?_; rintro e w' ⟨A, c, rfl, hc, hn, hne, hr, hg⟩; have HR2 := Aside0.mk hr; have HG2 := Aside0.mk hg; have HC := Aside0.mk hc; have hn := hn (by decide); obtain ⟨ad, rfl⟩ : ∃ ad, A = some ad := (by cases A with | none => cases hn | some a => exact ⟨a, rfl⟩); have hx := first_cell HC.out; clear hr hg hc hne hn))
          clear o1
          go_roundw
          case rel => exact ⟨k + 1, f, y, t, by omega, rfl, by go_num, hy0, HO2, HBt, HE', HR2, ⟨grown_trans' HG.out HG2.out⟩⟩
          case measure => simp [intOf]; omega
        · by_cases hbad : 4611686018427387904 < y ∨ most < y ∨ (b = 0 ∧ 0 < k)
          · have HE' := Aside0.mk (show rnum most 9 1 0 l = (0, [], true) by
              rw [← HE.out]; exact rnum_bad hb127 (by rw [HY.out, HO5.out]; exact hbad))
            clear HE
            have hc4 : 4611686018427387904 < y ∨ (¬ 4611686018427387904 < y ∧ most < y) ∨ (¬ 4611686018427387904 < y ∧ ¬ most < y ∧ (b == 0) = true ∧ 0 < (k : Int)) := by
              rcases hbad with h | h | ⟨h, h'⟩
              · exact .inl h
              · by_cases h2 : 4611686018427387904 < y
                · exact .inl h2
                · exact .inr (.inl ⟨h2, h⟩)
              · by_cases h2 : 4611686018427387904 < y
                · exact .inl h2
                · by_cases h3 : most < y
                  · exact .inr (.inl ⟨h2, h3⟩)
                  · exact .inr (.inr ⟨h2, h3, by simpa using h, by omega⟩)
            clear hbad
            rcases hc4 with c1 | ⟨c1, c2⟩ | ⟨c1, c2, c3, c4⟩
            all_goals
              go_wp2_with (first | (go_at_call 41; refine (take_ok w0 _ g (b :: t) 1 HR.out (by simp)).mono ?_; rintro e w' ⟨A, c, rfl, hc, hn, hne, hr, hg⟩; have HR2 := Aside0.mk hr; have HG2 := Aside0.mk hg; have HC := Aside0.mk hc; have hn := hn (by decide); obtain ⟨ad, rfl⟩ : ∃ ad, A = some ad := (by cases A with | none => cases hn | some a => exact ⟨a, rfl⟩); have hx := first_cell HC.out; clear hr hg hc hne hn) | (go_at_call 34; refine (fail_any w0 _ g t false HR2.out).mono ?_; rintro e w' ⟨rfl, hr, hg⟩; have HR3 := Aside0.mk hr; have HG3 := Aside0.mk hg; clear hr hg))
              go_ret
              exact ⟨by rw [HE'.out]; rfl, by rw [HE'.out]; exact HR3.out, grown_trans' HG.out (grown_trans' HG2.out HG3.out)⟩
          · have HE' := Aside0.mk (show rnum most 9 1 0 l = (y, t, false) by
              rw [← HE.out, rnum_good hb127 (by rw [HY.out, HO5.out]; exact hbad), HY.out])
            clear HE
            have c1 : ¬ 4611686018427387904 < y := fun h => hbad (.inl h)
            have c2 : ¬ most < y := fun h => hbad (.inr (.inl h))
            have hc4 : ((b == 0) = false) ∨ ((b == 0) = true ∧ ¬ 0 < (k : Int)) := by
              by_cases h : b = 0
              · exact .inr ⟨by simpa using h, fun h' => hbad (.inr (.inr ⟨h, by omega⟩))⟩
              · exact .inl (by simpa using h)
            clear hbad
            rcases hc4 with c3 | ⟨c3, c4⟩
            all_goals
              go_wp2_with (first | (go_at_call 41; refine (take_ok w0 _ g (b :: t) 1 HR.out (by simp)).mono ?_; rintro e w' ⟨A, c, rfl, hc, hn, hne, hr, hg⟩; have HR2 := Aside0.mk hr; have HG2 := Aside0.mk hg; have HC := Aside0.mk hc; have hn := hn (by decide); obtain ⟨ad, rfl⟩ : ∃ ad, A = some ad := (by cases A with | none => cases hn | some a => exact ⟨a, rfl⟩); have hx := first_cell HC.out; clear hr hg hc hne hn))
              go_ret
              exact ⟨by rw [HE'.out]; rfl, by rw [HE'.out]; exact HR2.out, grown_trans' HG.out HG2.out⟩
    · have hk9 : k = 9 := by omega
      have HE' := Aside0.mk (show rnum most 9 1 0 l = (0, [], true) by
        have : f = 0 := by omega
        rw [← HE.out, this]; rfl)
      have hk63 : ¬ 7 * (k : Int) < 63 := by omega
      clear hk9 HE
      go_wp2_with (first | (go_at_call 34; (with_reducible refine (fail_any w0 _ g r false HR.out).mono ?_); rintro e w' ⟨rfl, hr, hg⟩; have HR2 := Aside0.mk hr; have HG2 := Aside0.mk hg; clear hr hg))
      go_ret
      exact ⟨by rw [HE'.out]; rfl, by rw [HE'.out]; exact HR2.out, grown_trans' HG.out HG2.out⟩
end Go.Proofs.Ytighpoelpedneaa

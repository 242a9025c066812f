import Derived.Test.YtighpoelpedneaaOrder
namespace Go.Proofs.Ytighpoelpedneaa
open Go Go.RowKit Go.Proofs.YtighpoelpedneaaW.PrintWords
set_option linter.unusedVariables false
set_option linter.unusedSimpArgs false

/-- A reader: block g of the call's own (w0: the world in which the call began); what it has left; has it failed? -/
structure Rd (w0 w : World) (g : Nat) (l : List Int) (bad : Bool) : Prop where
  ex : ∃ (A : Option Addr) (c : Nat), w.heap[g]? = some (.cells #[.slice A l.length c, .bool bad] 70 (0, 0)) ∧ (Kd.int .u8).C w A l.length l ∧ l.length ≤ c ∧ (∀ ad, A = some ad → ad.block < g)
  lo : w0.heap.size ≤ g
  below : Below w0.heap.size w0 w

theorem C_far {α : Type} {d : Kd α} {enc : α → Value} {h1 : ∀ x, (enc x).oneCell' = true} (z : α) {w : World} {A : Option Addr} {n : Nat} {xs : List α} (h : (Kd.scalar enc h1).C w A n xs) {p : Addr} (hne : ∀ ad, A = some ad → ad.block ≠ p.block) (u : Value) : (Kd.scalar enc h1).C (w.setCell p u) A n xs := by
  have hr : ReadsOf enc z w A n xs := Kd.reads_of_C h
  refine Kd.C_of_reads (d := z) ⟨hr.1, hr.2.1, fun hn => ?_⟩
  obtain ⟨ad, e, hc⟩ := hr.2.2 hn
  exact ⟨ad, e, fun j hj => by rw [cell_far (by rw [add_block]; exact hne ad e)]; exact hc j hj⟩
theorem C_int_far {k : IntKind} {w : World} {A : Option Addr} {n : Nat} {xs : List Int} (h : (Kd.int k).C w A n xs) {p : Addr} (hne : ∀ ad, A = some ad → ad.block ≠ p.block) (u : Value) : (Kd.int k).C (w.setCell p u) A n xs :=
  C_far (d := Kd.int k) (0 : Int) h hne u

theorem Rd.setB {w0 w : World} {g : Nat} {l l' : List Int} {bad : Bool} (h : Rd w0 w g l bad) {A' : Option Addr} {c' : Nat} (hC : (Kd.int .u8).C w A' l'.length l') (hc : l'.length ≤ c') (hn : ∀ ad, A' = some ad → ad.block < g) :
    Rd w0 (w.setCell ⟨g, 0, none⟩ (.slice A' l'.length c')) g l' bad := by
  obtain ⟨⟨A, c, hb, _, _, _⟩, h2, h3⟩ := h
  refine ⟨⟨A', c', ?_, C_int_far hC (fun ad h => Nat.ne_of_lt (hn ad h)) _, hc, hn⟩, h2, below_set h3 h2⟩
  rw [blk_set hb]; rfl
theorem Rd.setBad {w0 w : World} {g : Nat} {l : List Int} {bad : Bool} (h : Rd w0 w g l bad) (b : Bool) : Rd w0 (w.setCell ⟨g, 1, none⟩ (.bool b)) g l b := by
  obtain ⟨⟨A, c, hb, hC, hc, hn⟩, h2, h3⟩ := h
  refine ⟨⟨A, c, ?_, C_int_far hC (fun ad h => Nat.ne_of_lt (hn ad h)) _, hc, hn⟩, h2, below_set h3 h2⟩
  rw [blk_set hb]; rfl
theorem grown_set (w : World) (g j : Nat) (u : Value) : w.grownBy (w.setCell ⟨g, j, none⟩ u) (some g) :=
  ⟨rfl, rfl, rfl, by simp [World.setCell], fun k hk hne => Below.heap_setCell w _ _ _ (fun e => hne (by subst e; rfl))⟩
theorem grown_trans' {a b c : World} {r : Option Nat} (h : a.grownBy b r) (k : b.grownBy c r) : a.grownBy c r := World.grownBy.trans h k

theorem fail_any (w0 w : World) (g : Nat) (l : List Int) (bad : Bool) (h : Rd w0 w g l bad) :
    Calls Try.prog 34 #[.pointer (some ⟨g, 0, none⟩)] w fun e w' => e = .returned (.tuple #[]) ∧ Rd w0 w' g [] true ∧ w.grownBy w' (some g) := by
  have H := Aside0.mk h
  obtain ⟨A, c, hb, _, _, _⟩ := h.ex
  have hx0 : w.cell? ⟨g, 0, none⟩ = some (.slice A l.length c) := blk_cell hb 0
  have hx1 : w.cell? ⟨g, 1, none⟩ = some (.bool bad) := blk_cell hb 1
  have hf0 := blk_frozen hb 0
  have hf1 := blk_frozen hb 1
  clear hb h
  go_enter Try.func34, Try.ntmps34
  go_wp2
  go_end0
  have h1 := H.out.setB (l' := []) (A' := none) (c' := 0) (C_nil w) (Nat.le_refl _) (fun _ h => by cases h)
  exact ⟨rfl, h1.setBad true, grown_trans' (grown_set _ _ _ _) (grown_set _ _ _ _)⟩
theorem good_any (w0 w : World) (g : Nat) (l : List Int) (bad : Bool) (h : Rd w0 w g l bad) :
    Calls Try.prog 35 #[.pointer (some ⟨g, 0, none⟩)] w fun e w' => e = .returned (.bool (!bad)) ∧ w = w' := by
  obtain ⟨A, c, hb, _, _, _⟩ := h.ex
  have hx1 : w.cell? ⟨g, 1, none⟩ = some (.bool bad) := blk_cell hb 1
  clear hb h
  go_enter Try.func35, Try.ntmps35
  go_wp2
  go_ret
  exact ⟨rfl, rfl⟩
theorem left_any (w0 w : World) (g : Nat) (l : List Int) (bad : Bool) (h : Rd w0 w g l bad) :
    Calls Try.prog 36 #[.pointer (some ⟨g, 0, none⟩)] w fun e w' => e = .returned (.int .i64 l.length) ∧ w = w' := by
  obtain ⟨A, c, hb, _, _, _⟩ := h.ex
  have hx0 : w.cell? ⟨g, 0, none⟩ = some (.slice A l.length c) := blk_cell hb 0
  clear hb h
  go_enter Try.func36, Try.ntmps36
  go_wp2
  go_ret
  exact ⟨rfl, rfl⟩
theorem done_any (w0 w : World) (g : Nat) (l : List Int) (bad : Bool) (h : Rd w0 w g l bad) :
    Calls Try.prog 37 #[.pointer (some ⟨g, 0, none⟩)] w fun e w' => e = .returned (.bool (!bad && l.isEmpty)) ∧ w = w' := by
  obtain ⟨A, c, hb, _, _, _⟩ := h.ex
  have hx0 : w.cell? ⟨g, 0, none⟩ = some (.slice A l.length c) := blk_cell hb 0
  have hx1 : w.cell? ⟨g, 1, none⟩ = some (.bool bad) := blk_cell hb 1
  clear hb h
  have he := Aside0.mk (show ((l.length : Int) == 0) = l.isEmpty by
    cases l with
    | nil => rfl
    | cons a t => simp; omega)
  cases bad with
  | true =>
    go_enter Try.func37, Try.ntmps37
    go_wp2
    go_ret
    exact ⟨rfl, rfl⟩
  | false =>
    go_enter Try.func37, Try.ntmps37
    go_wp2
    go_ret
    exact ⟨ret_bool he.out, rfl⟩

/-- take: what there is. -/
def Took (w0 w : World) (g : Nat) (l : List Int) (n : Nat) (e : Ending) (w' : World) : Prop :=
  ∃ A c, e = .returned (.slice A n c) ∧ (Kd.int .u8).C w' A n (l.take n) ∧ (0 < n → A.isNone = false) ∧ (∀ ad, A = some ad → ad.block < g) ∧ Rd w0 w' g (l.drop n) false ∧ w.grownBy w' (some g)
theorem took_mk {w0 w : World} {g : Nat} {l : List Int} {n : Nat} {A : Option Addr} {c : Nat} (H : Rd w0 w g l false) (hn : n ≤ l.length) (hC : (Kd.int .u8).C w A l.length l) (hc : l.length ≤ c) (hne : ∀ ad, A = some ad → ad.block < g)
    {A' : Option Addr} {m c' : Nat} (hA : A' = if c = n then A else A.map (·.add n)) (hm : m = l.length - n) (hc' : c' = c - n) : Took w0 w g l n (.returned (.slice A n n)) (w.setCell ⟨g, 0, none⟩ (.slice A' m c')) := by
  subst hc' hm
  have ht := Kd.C_take hC hn
  rw [List.length_take, Nat.min_eq_left hn] at ht
  have hd := Kd.C_drop hC hn hc
  have e1 : n * (Kd.int .u8).sz = n := Nat.mul_one n
  rw [e1, ← hA] at hd
  have hne' : ∀ ad, A' = some ad → ad.block < g := by
    intro ad h
    rw [hA] at h
    split at h
    · exact hne ad h
    · cases A with
      | none => cases h
      | some a =>
        injection h with h
        subst h
        rw [add_block]
        exact hne a rfl
  have hR := H.setB (l' := l.drop n) hd (by rw [List.length_drop]; omega : (l.drop n).length ≤ c - n) hne'
  rw [List.length_drop] at hR
  refine ⟨A, n, rfl, C_int_far ht (fun ad h => Nat.ne_of_lt (hne ad h)) _, fun h0 => ?_, hne, hR, grown_set _ _ _ _⟩
  cases A with
  | none => obtain ⟨ad, h, _⟩ := hC.2.2 (by omega); cases h
  | some a => rfl
theorem take_ok (w0 w : World) (g : Nat) (l : List Int) (n : Nat) (h : Rd w0 w g l false) (hn : n ≤ l.length) :
    Calls Try.prog 41 #[.pointer (some ⟨g, 0, none⟩), .int .i64 n] w (Took w0 w g l n) := by
  have H := Aside0.mk h
  obtain ⟨A, c, hb, hC, hc, hne⟩ := h.ex
  have hx0 : w.cell? ⟨g, 0, none⟩ = some (.slice A l.length c) := blk_cell hb 0
  have hx1 : w.cell? ⟨g, 1, none⟩ = some (.bool false) := blk_cell hb 1
  have hf0 := blk_frozen hb 0
  have hl := C_len hC
  have HC := Aside0.mk hC
  have HN := Aside0.mk hne
  have HL := Aside0.mk hn
  have HCC := Aside0.mk hc
  clear hb h hC hne
  by_cases hcn : c = n
  · subst hcn
    go_enter Try.func41, Try.ntmps41
    go_wp2
    go_ret
    have hk := took_mk (A := A) (c := c) H.out HL.out HC.out HCC.out HN.out (A' := A) (m := 0) (c' := 0) (by simp) (by omega) (by omega)
    exact hk
  · have HK := Aside0.mk hcn
    go_enter Try.func41, Try.ntmps41
    go_wp2
    go_ret
    have hk := took_mk (A := A) (c := c) H.out HL.out HC.out HCC.out HN.out (A' := A.map (·.add n)) (by rw [if_neg HK.out]) rfl rfl
    exact hk
theorem take_no (w0 w : World) (g : Nat) (l : List Int) (bad : Bool) (n : Int) (h : Rd w0 w g l bad) (hn : bad = true ∨ l.length < n) :
    Calls Try.prog 41 #[.pointer (some ⟨g, 0, none⟩), .int .i64 n] w fun e w' => e = .returned (.slice none 0 0) ∧ Rd w0 w' g [] true ∧ w.grownBy w' (some g) := by
  have H := Aside0.mk h
  obtain ⟨A, c, hb, hC, hc, hne⟩ := h.ex
  have hx0 : w.cell? ⟨g, 0, none⟩ = some (.slice A l.length c) := blk_cell hb 0
  have hx1 : w.cell? ⟨g, 1, none⟩ = some (.bool bad) := blk_cell hb 1
  have hf0 := blk_frozen hb 0
  clear hb h hC
  cases bad with
  | true =>
    clear hn
    go_enter Try.func41, Try.ntmps41
    go_wp2_with (first | (go_at_call 34; (with_reducible refine (fail_any w0 w g l true H.out).mono ?_); rintro e w' ⟨rfl, hr, hg⟩; have HR := Aside0.mk hr; have HG := Aside0.mk hg; clear hr hg))
    go_ret
    exact ⟨rfl, HR.out, HG.out⟩
  | false =>
    have hn : (l.length : Int) < n := by rcases hn with h | h; cases h; exact h
    go_enter Try.func41, Try.ntmps41
    go_wp2_with (first | (go_at_call 34; (with_reducible refine (fail_any w0 w g l false H.out).mono ?_); rintro e w' ⟨rfl, hr, hg⟩; have HR := Aside0.mk hr; have HG := Aside0.mk hg; clear hr hg))
    go_ret
    exact ⟨rfl, HR.out, HG.out⟩
end Go.Proofs.Ytighpoelpedneaa

import Derived.Test.YtighpoelpedneaaWr
import Derived.Test.YtighpoelpedneaaStep
namespace Go.Proofs.Ytighpoelpedneaa
open Go.RowKit Go.Proofs.YtighpoelpedneaaW.PrintWords
set_option linter.unusedVariables false
set_option linter.unusedSimpArgs false

/-- An array's cells: n bytes. -/
structure Arr (n : Nat) (cs : Array Value) (l : List Int) : Prop where
  size : cs.size = n
  len : l.length = n
  at_ : ∀ j, j < l.length → cs[j]? = some (.int .u8 (l.getD j 0))

theorem R_emptyAt {α : Type} (d : Kd α) (W : World) (base e g : Nat) (hb : base ≤ W.heap.size) (hg : g = W.heap.size) : d.R e (W.alloc (.cells #[] e)) base (fun _ => True) (.slice (some ⟨g, 0, none⟩) 0 0) [] := by
  subst hg
  exact R_empty d W base e hb
theorem encId_any (A : Option Addr) (c : Nat) (l : List Int) (cs : Array Value) (b : List Int) (w : World) (hr : (Kd.int .u8).C w A l.length l) (hb : l.length + 100 ≤ 140737488355328) (ha : Arr 32 cs b) :
    Calls Try.prog 21 #[.slice A l.length c, .agg cs] w (Made w (l ++ b)) := by
  have HR := Aside0.mk hr
  have HA := Aside0.mk ha
  clear hr ha
  go_enter Try.func21, Try.ntmps21
  go_wp2_with fail
  have HW := Aside0.mk (below_drew1 (below_alloc (Below.refl w.heap.size w) (.cells cs 32)))
  have HC := Aside0.mk (show (Kd.int .u8).C (w.alloc (.cells cs 32)).drew (some ⟨w.heap.size, 0, none⟩) b.length b from Kd.C_below (C_new w cs 32 (0, 0) b HA.out.at_ (by rw [HA.out.len]; decide)) (below_drew1 (Below.refl _ _)))
  rw [HA.out.len] at HC
  have HL := Aside0.mk HA.out.len
  go_region_law (first
    | (refine step_call1 (f := 39) (x := .tmp 5) (v := .slice A l.length c) (by rfl) rfl rfl enter39 (clone_any A c l _ (Kd.C_below HR.out HW.out) (by omega)) ?_; rintro v1 w1 ⟨ho, hb1⟩; have HO := Aside0.mk (Kd.R_lower ho HW.out.size); have HB := Aside0.mk hb1; have HB' := Aside0.mk (below_step HW.out hb1); clear ho hb1)
    | (refine step_row (w0 := w) (base := w.heap.size) rfl (.tmp 6) (.tmp 7) rfl v1 l b (some ⟨w.heap.size, 0, none⟩) 32 32 rfl rfl HO.out (Kd.C_below HC.out HB.out) HB'.out HB'.out.size (by omega) ?_; intro v2 w2 ho hb2 hg; have HO2 := Aside0.mk ho; have HB2 := Aside0.mk hb2; clear ho hb2 hg))
  go_wp2
  go_ret
  exact ⟨v2, rfl, HO2.out, HB2.out⟩
theorem refId_any (cs : Array Value) (b : List Int) (w : World) (ha : Arr 32 cs b) :
    Calls Try.prog 22 #[.agg cs] w (Made w b) := by
  have HA := Aside0.mk ha
  clear ha
  go_enter Try.func22, Try.ntmps22
  have HW := Aside0.mk (below_alloc (Below.refl w.heap.size w) (.cells cs 31))
  have HC := Aside0.mk (C_new w cs 31 (0, 0) b HA.out.at_ (by rw [HA.out.len]; decide))
  have hl := HA.out.len
  have HL := Aside0.mk hl
  clear hl
  go_wp2
  go_loopw [3, 4] (fun v i wr => ∃ k : Nat, k ≤ 32 ∧ i = .int .i64 k ∧ Aside0 ((Kd.int .u8).R 5 wr (w.alloc (.cells cs 31)).heap.size (fun _ => True) v (b.take k)) ∧ Aside0 (Below (w.alloc (.cells cs 31)).heap.size (w.alloc (.cells cs 31)) wr)) (fun _ i _ => 32 - (intOf i).toNat)
  case atStart => exact ⟨0, by omega, rfl, ⟨R_emptyAt _ _ _ _ _ (Nat.le_refl _) (by simp)⟩, ⟨below_alloc (Below.refl _ _) _⟩⟩
  case round =>
    obtain ⟨k, hk, rfl, HO, HB1⟩ := hrel
    by_cases hlt : k < 32
    · have hkb : k < b.length := by rw [HL.out]; exact hlt
      have hx := (at_nat (Kd.C_below HC.out HB1.out) k hkb)
      obtain ⟨ad, ha, hx⟩ := hx
      injection ha with ha
      subst ha
      rw [add_plain] at hx
      have HT := Aside0.mk (show b.take k ++ [rd b k] = b.take (k + 1) by
        rw [List.take_succ_eq_append_getElem hkb]; simp [rd, hkb])
      have HN := Aside0.mk (show (b.take k).length ≤ k from List.length_take_le _ _)
      clear hkb
      go_wp2_with (first | (at_builtin; refine app_one (w0 := w.alloc (.cells cs 31)) (base := (w.alloc (.cells cs 31)).heap.size) rfl (.tmp 10) (.tmp 14) rfl _ (b.take k) _ rfl rfl HO.out HB1.out HB1.out.size ?c1 ?_; (case c1 => have := HN.out; omega); intro v2 w2 ho hb2 hg; have HO2 := Aside0.mk ho; have HB2 := Aside0.mk hb2; clear ho hb2 hg))
      go_roundw
      case rel => exact ⟨k + 1, by omega, by go_num, ⟨by rw [← HT.out]; exact HO2.out⟩, HB2⟩
      case measure => simp [intOf]; omega
    · obtain rfl : k = 32 := by omega
      rw [List.take_of_length_le (by rw [HL.out]; decide)] at HO
      go_wp2
      go_ret
      exact ⟨_, rfl, Kd.R_lower HO.out HW.out.size, below_step HW.out HB1.out⟩

/-! Text -/
theorem encText_any (A : Option Addr) (c : Nat) (l : List Int) (s : ByteArray) (w : World) (hr : (Kd.int .u8).C w A l.length l) (hb : l.length + s.size + 10 ≤ 140737488355328) :
    Calls Try.prog 19 #[.slice A l.length c, .string s] w (Made w (l ++ encNum s.size ++ bytesOf s)) := by
  have HR := Aside0.mk hr
  clear hr
  have HN := Aside0.mk (show (l ++ encNum (s.size : Int)).length ≤ l.length + 9 by
    have := (numL_len 8 (clamp (s.size : Int))).2
    rw [List.length_append]; unfold encNum; omega)
  go_enter Try.func19, Try.ntmps19
  go_wp2_with (first
    | (go_at_call 15; (with_reducible refine (encNum_any A c l _ w HR.out (by omega)).mono ?_); rintro e w1 ⟨v1, rfl, ho, hb1⟩; have HO := Aside0.mk ho; have HB := Aside0.mk hb1; clear ho hb1)
    | (at_builtin; refine app_str (w0 := w) (base := w.heap.size) rfl (.tmp 8) (.tmp 9) rfl _ (l ++ encNum s.size) s rfl rfl HO.out HB.out HB.out.size ?c1 ?_; (case c1 => have := HN.out; omega); intro v2 w2 ho hb2 hg; have HO2 := Aside0.mk ho; have HB2 := Aside0.mk hb2; clear ho hb2 hg))
  go_ret
  exact ⟨v2, rfl, HO2.out, HB2.out⟩
theorem refText_any (s : ByteArray) (w : World) (hb : s.size + 10 ≤ 140737488355328) :
    Calls Try.prog 20 #[.string s] w (Made w (encNum s.size ++ bytesOf s)) := by
  have HN := Aside0.mk (show (encNum (s.size : Int)).length ≤ 9 from (numL_len 8 (clamp (s.size : Int))).2)
  have hcv := fun W => print_bytes (P := Try.prog) 9 22 5 Try.underlying9 Try.underlying22 Try.underlying5 s W
  go_enter Try.func20, Try.ntmps20
  go_wp2_with (first
    | (go_at_call 18; (with_reducible refine (refNum_any _ w).mono ?_); rintro e w1 ⟨v1, rfl, ho, hb1⟩; have HO := Aside0.mk ho; have HB := Aside0.mk hb1; clear ho hb1))
  obtain ⟨A1, c1, rfl, _, hC⟩ := Kd.R_reads HO.out
  have hB := bytes_below (Below.refl w1.heap.size w1) (Nat.le_refl _) 5 s
  have hS : (Kd.int .u8).C (Lib.bytesWorld w1 5 s) (some ⟨w1.heap.size, 0, none⟩) (bytesOf s).length (bytesOf s) :=
    Kd.C_of_reads (d := (0 : Int)) (h1 := fun _ => rfl) (by rw [bytesOf_length]; exact bytes_reads w1 5 s (by omega))
  have hk := join_any A1 c1 (encNum s.size) (some ⟨w1.heap.size, 0, none⟩) (grownCap w1 s.size 0 5) (bytesOf s) (Lib.bytesWorld w1 5 s) (Kd.C_below hC hB) hS (by have := HN.out; rw [bytesOf_length]; omega)
  rw [bytesOf_length] at hk
  refine hk.mono ?_
  rintro e w2 ⟨v2, rfl, ho, hb2⟩
  have HO2 := Aside0.mk ho
  have HB2 := Aside0.mk (below_step (below_step HB.out hB) hb2)
  have HB3 := Aside0.mk (below_step HB.out hB).size
  clear ho hb2 hS hk hB hC
  go_wp2
  go_ret
  exact ⟨v2, rfl, Kd.R_lower HO2.out HB3.out, HB2.out⟩
end Go.Proofs.Ytighpoelpedneaa

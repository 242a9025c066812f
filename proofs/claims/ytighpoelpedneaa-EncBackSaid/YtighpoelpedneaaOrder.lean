import Derived.Test.YtighpoelpedneaaIds
namespace Go.Proofs.Ytighpoelpedneaa
open Go.RowKit Go.Proofs.YtighpoelpedneaaW.PrintWords
set_option linter.unusedVariables false
set_option linter.unusedSimpArgs false

theorem C_nil (w : World) : (Kd.int .u8).C w none ([] : List Int).length [] := Kd.C_of_reads (d := (0 : Int)) (h1 := fun _ => rfl) (ReadsOf.nil _ _ _)
theorem num300 : encNum 300 = [172, 2] := by decide +kernel
theorem num2 : encNum ((2 : Nat) : Int) = [2] := by decide +kernel
/-- a literal's cells -/
theorem lit_at (cs : Array Value) (l : List Int) (h : cs.toList = l.map (Value.int .u8)) : ∀ j, j < l.length → cs[j]? = some (.int .u8 (l.getD j 0)) := by
  intro j hj
  rw [← Array.getElem?_toList, h, List.getElem?_map, List.getElem?_eq_getElem hj]
  simp [List.getD_eq_getElem?_getD, hj]
theorem C_lit (w : World) (cs : Array Value) (t : TypeId) (l : List Int) (h : cs.toList = l.map (Value.int .u8)) (hl : l.length ≤ 9223372036854775807) : (Kd.int .u8).C (w.alloc (.cells cs t)) (some ⟨w.heap.size, 0, none⟩) l.length l :=
  C_new w cs t (0, 0) l (lit_at cs l h) hl

theorem writing_any (w : World) :
    Calls Try.prog 14 #[] w fun e w' => e = .returned (.bool true) ∧ Below w.heap.size w w' := by
  go_enter Try.func14, Try.ntmps14
  go_wp2_with fail
  refine (encNum_any none 0 [] 300 w (C_nil w) (by decide)).mono ?_
  rintro e w1 ⟨v1, rfl, ho, hb1⟩
  rw [List.nil_append, num300] at ho
  obtain ⟨A1, c1, rfl, _, hC1⟩ := Kd.R_reads ho
  have HC1 := Aside0.mk hC1
  have HB1 := Aside0.mk hb1
  clear ho hb1 hC1
  go_wp2_with fail
  refine (sameBytes_any A1 c1 [172, 2] (some ⟨w1.heap.size, 0, none⟩) 2 [172, 2] _ (Kd.C_below HC1.out (below_alloc (Below.refl _ _) _)) (C_lit w1 _ 5 [172, 2] rfl (by decide))).mono ?_
  rintro e w2 ⟨rfl, hd2⟩
  simp only [decide_true]
  have HB2 := Aside0.mk (below_step (below_alloc HB1.out _) hd2.below)
  clear hd2
  go_wp2_with fail
  refine (encText_any (some ⟨w2.heap.size, 0, none⟩) 1 [1] ⟨#[97, 98]⟩ _ (C_lit w2 _ 5 [1] rfl (by decide)) (by decide)).mono ?_
  rintro e w3 ⟨v3, rfl, ho, hb3⟩
  have e3 : [1] ++ encNum ((⟨#[97, 98]⟩ : ByteArray).size : Int) ++ bytesOf ⟨#[97, 98]⟩ = [1, 2, 97, 98] := by decide +kernel
  rw [e3] at ho
  obtain ⟨A3, c3, rfl, _, hC3⟩ := Kd.R_reads ho
  have HC3 := Aside0.mk hC3
  have HB3 := Aside0.mk (below_step (below_alloc HB2.out _) hb3)
  clear ho hb3 hC3 e3
  go_wp2_with fail
  refine (sameBytes_any A3 c3 [1, 2, 97, 98] (some ⟨w3.heap.size, 0, none⟩) 4 [1, 2, 97, 98] _ (Kd.C_below HC3.out (below_alloc (Below.refl _ _) _)) (C_lit w3 _ 5 [1, 2, 97, 98] rfl (by decide))).mono ?_
  rintro e w4 ⟨rfl, hd4⟩
  simp only [decide_true]
  have HB4 := Aside0.mk (below_step (below_alloc HB3.out _) hd4.below)
  clear hd4
  go_wp2_with fail
  have ha : Arr 32 #[Value.int IntKind.u8 7, Value.int IntKind.u8 0, Value.int IntKind.u8 0, Value.int IntKind.u8 0, Value.int IntKind.u8 0, Value.int IntKind.u8 0, Value.int IntKind.u8 0, Value.int IntKind.u8 0, Value.int IntKind.u8 0, Value.int IntKind.u8 0, Value.int IntKind.u8 0, Value.int IntKind.u8 0, Value.int IntKind.u8 0, Value.int IntKind.u8 0, Value.int IntKind.u8 0, Value.int IntKind.u8 0, Value.int IntKind.u8 0, Value.int IntKind.u8 0, Value.int IntKind.u8 0, Value.int IntKind.u8 0, Value.int IntKind.u8 0, Value.int IntKind.u8 0, Value.int IntKind.u8 0, Value.int IntKind.u8 0, Value.int IntKind.u8 0, Value.int IntKind.u8 0, Value.int IntKind.u8 0, Value.int IntKind.u8 0, Value.int IntKind.u8 0, Value.int IntKind.u8 0, Value.int IntKind.u8 0, Value.int IntKind.u8 0] (7 :: List.replicate 31 0) :=
    ⟨rfl, rfl, lit_at _ _ rfl⟩
  refine (encId_any (some ⟨w4.heap.size, 0, none⟩) 1 [5] _ _ _ (C_lit w4 _ 5 [5] rfl (by decide)) (by decide) ha).mono ?_
  rintro e w5 ⟨v5, rfl, ho, hb5⟩
  obtain ⟨A5, c5, hv, _, hC5⟩ := Kd.R_reads ho
  have e5 : ([5] ++ (7 :: List.replicate 31 0) : List Int).length = 33 := rfl
  rw [e5] at hv
  subst hv
  have HB5 := Aside0.mk (below_step (below_alloc HB4.out _) hb5)
  clear ho hb5 hC5 e5 ha
  go_wp2
  go_ret
  exact ⟨rfl, HB5.out⟩

/-! EncOrder -/
theorem numL_injLen (f : Nat) : ∀ u v : Int, 0 ≤ u → 0 ≤ v → fits f u → fits f v → (numL f u = numL f v ↔ u = v) ∧ (u < v → (numL f u).length ≤ (numL f v).length) := by
  induction f with
  | zero =>
    intro u v h0 h1 h2 h3
    have := fits_zero h2
    have := fits_zero h3
    refine ⟨⟨fun h => ?_, fun h => by rw [h]⟩, fun _ => Nat.le_refl _⟩
    unfold numL at h
    have : u % 256 = v % 256 := by simpa using h
    omega
  | succ f ih =>
    intro u v h0 h1 h2 h3
    by_cases hu : 127 < u <;> by_cases hv : 127 < v
    · obtain ⟨i1, i2⟩ := ih (u / 128) (v / 128) (by omega) (by omega) (fits_next h2 hu) (fits_next h3 hv)
      rw [numL_step (by omega), numL_step (by omega)]
      refine ⟨⟨fun h => ?_, fun h => by rw [h]⟩, fun h => ?_⟩
      · have e1 : u % 128 + 128 = v % 128 + 128 := by injection h
        have e2 : numL f (u / 128) = numL f (v / 128) := by injection h
        have := i1.1 e2
        omega
      · simp only [List.length_cons]
        rcases Int.lt_or_eq_of_le (show u / 128 ≤ v / 128 by omega) with h' | h'
        · have := i2 h'; omega
        · rw [h']; exact Nat.le_refl _
    · rw [numL_step (by omega), numL_no hv]
      refine ⟨⟨fun h => ?_, fun h => by omega⟩, fun h => by omega⟩
      have e1 : u % 128 + 128 = v % 256 := by injection h
      omega
    · rw [numL_no hu, numL_step (by omega)]
      refine ⟨⟨fun h => ?_, fun h => by omega⟩, fun h => by simp⟩
      have e1 : u % 256 = v % 128 + 128 := by injection h
      omega
    · rw [numL_no hu, numL_no hv]
      refine ⟨⟨fun h => ?_, fun h => by rw [h]⟩, fun h => Nat.le_refl _⟩
      have : u % 256 = v % 256 := by simpa using h
      omega
theorem order_law (a b : Int) : (encNum a = encNum b ↔ clamp a = clamp b) ∧ (clamp a < clamp b → (encNum a).length ≤ (encNum b).length) ∧ 1 ≤ (encNum a).length ∧ (encNum a).length ≤ 9 := by
  have ha := clamp_bd a
  have hb := clamp_bd b
  obtain ⟨h1, h2⟩ := numL_injLen 8 (clamp a) (clamp b) ha.1 hb.1 (fits_start ha.2) (fits_start hb.2)
  exact ⟨h1, h2, numL_len 8 _⟩

theorem EncOrder_walk (a b : Int) (w : World) (hw0 : (Lit.int .i64 a).wf = true) (hw1 : (Lit.int .i64 b).wf = true) :
    Calls Try.prog 5 #[.int .i64 a, .int .i64 b] w fun e w' => e = .returned (.bool true) ∧ Below w.heap.size w w' := by
  have hmx := fun W x => run_max Try.prog #[2, 2] 2 .i64 x 0 W
  have hmn := fun W x => run_min Try.prog #[2, 2] 2 .i64 x 4611686018427387904 W
  clear hw0 hw1
  obtain ⟨L1, L2, L3, L4⟩ := order_law a b
  obtain ⟨ua, hua⟩ : ∃ u, clamp a = u := ⟨_, rfl⟩
  obtain ⟨ub, hub⟩ : ∃ u, clamp b = u := ⟨_, rfl⟩
  rw [hua, hub] at L1 L2
  have hua' : mnI (mxI a 0) 4611686018427387904 = ua := hua
  have hub' : mnI (mxI b 0) 4611686018427387904 = ub := hub
  clear hua hub
  obtain ⟨la, hla⟩ : ∃ l, encNum a = l := ⟨_, rfl⟩
  obtain ⟨lb, hlb⟩ : ∃ l, encNum b = l := ⟨_, rfl⟩
  have HA := Aside0.mk hla
  have HB := Aside0.mk hlb
  rw [hla, hlb] at L1 L2
  rw [hla] at L3 L4
  clear hla hlb
  have HL1 := Aside0.mk L1
  have HL2 := Aside0.mk L2
  clear L1 L2
  go_enter Try.func5, Try.ntmps5
  go_wp2_with (first | (go_at_call 14; (with_reducible refine (writing_any _).mono ?_); rintro e w1 ⟨rfl, hb⟩; have HB1 := Aside0.mk hb; clear hb))
  refine (encNum_any none 0 [] a _ (C_nil _) (by decide)).mono ?_
  rintro e w2 ⟨v2, rfl, ho, hb2⟩
  rw [List.nil_append, HA.out] at ho
  obtain ⟨A2, c2, rfl, _, hC2⟩ := Kd.R_reads ho
  have HC2 := Aside0.mk hC2
  have HB2 := Aside0.mk (below_step HB1.out hb2)
  clear ho hb2 hC2
  go_wp2_with fail
  refine (encNum_any none 0 [] b _ (C_nil _) (by decide)).mono ?_
  rintro e w3 ⟨v3, rfl, ho, hb3⟩
  rw [List.nil_append, HB.out] at ho
  obtain ⟨A3, c3, rfl, _, hC3⟩ := Kd.R_reads ho
  have HC3 := Aside0.mk hC3
  have HB3 := Aside0.mk (below_step HB2.out hb3)
  have HC2' := Aside0.mk (Kd.C_below HC2.out hb3)
  clear ho hb3 hC3
  by_cases hlt : ua < ub
  · have hle := HL2.out hlt
    have hne : decide (la = lb) = false := by simp only [decide_eq_false_iff_not]; intro h; have := HL1.out.1 h; omega
    have he : (ua == ub) = false := by simp; omega
    have HNE := Aside0.mk hne
    clear hne
    go_wp2_with fail
    refine (sameBytes_any A2 c2 la A3 c3 lb _ HC2'.out HC3.out).mono ?_
    rintro e w4 ⟨rfl, hd⟩
    rw [HNE.out]
    have HB4 := Aside0.mk (below_step HB3.out hd.below)
    clear hd
    go_wp2
    go_ret
    exact ⟨ret_bool (decide_eq_true (by omega)), HB4.out⟩
  · by_cases heq : ua = ub
    · have hne : decide (la = lb) = true := by simpa using HL1.out.2 heq
      have he : (ua == ub) = true := by simpa using heq
      have HNE := Aside0.mk hne
      clear hne heq
      go_wp2_with fail
      refine (sameBytes_any A2 c2 la A3 c3 lb _ HC2'.out HC3.out).mono ?_
      rintro e w4 ⟨rfl, hd⟩
      rw [HNE.out]
      have HB4 := Aside0.mk (below_step HB3.out hd.below)
      clear hd
      go_wp2
      go_ret
      exact ⟨ret_bool (decide_eq_true (by omega)), HB4.out⟩
    · have hne : decide (la = lb) = false := by simp only [decide_eq_false_iff_not]; intro h; exact heq (HL1.out.1 h)
      have he : (ua == ub) = false := by simpa using heq
      have HNE := Aside0.mk hne
      clear hne heq
      go_wp2_with fail
      refine (sameBytes_any A2 c2 la A3 c3 lb _ HC2'.out HC3.out).mono ?_
      rintro e w4 ⟨rfl, hd⟩
      rw [HNE.out]
      have HB4 := Aside0.mk (below_step HB3.out hd.below)
      clear hd
      go_wp2
      go_ret
      exact ⟨ret_bool (decide_eq_true (by omega)), HB4.out⟩
end Go.Proofs.Ytighpoelpedneaa

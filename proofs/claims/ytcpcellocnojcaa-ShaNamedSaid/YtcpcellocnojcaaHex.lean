import Derived.Test.YtcpcellocnojcaaBlk
namespace Go.Proofs.Ytcpcellocnojcaa
open Go Go.RowKit Go.Proofs.YtcpcellocnojcaaW.PrintWords
set_option linter.unusedVariables false
set_option linter.unusedSimpArgs false

set_option maxHeartbeats 2000000 in
set_option maxRecDepth 20000 in
theorem hex_any (cs : Array Value) (b : List Int) (w : World) (ha : Arr 32 cs b) :
    Calls Try.prog 11 #[.agg cs] w fun e w' => e = .returned (.string (strOfNums (hexL b))) ∧ Below w.heap.size w w' := by
  have HA := Aside0.mk ha
  clear ha
  have h23 := Try.underlying23
  have HI := Aside0.mk (show (Try.prog.info? 23).map (·.size) = some cs.toList.length by rw [size23]; simp [HA.out.size])
  go_enter Try.func11, Try.ntmps11
  go_wp2_with (first
    | (refine wpList_load_mid rfl 23 (.tmp 1) rfl w.heap.size 0 rfl cs.toList _ (range_cs (heap_alloc2_old w _ _)) h23 rfl HI.out ?_; rw [Array.toArray_toList]))
  go_loopw [5, 7] (fun v i wr => ∃ k : Nat, k ≤ 32 ∧ i = .int .i64 k ∧ Aside0 (Lib.IsBuilder 55 5 w.heap.size (w.heap.size + 1) ((hexL (b.take k)).map (Value.int .u8)) wr) ∧ Aside0 (Below w.heap.size w wr)) (fun v i wr => (32 - intOf i).toNat)
  case atStart => exact ⟨0, by omega, rfl, ⟨by
      have h := Lib.fresh_isBuilder 55 5 (w.alloc (.cells cs 23))
      have e : (w.alloc (.cells cs 23)).heap.size = w.heap.size + 1 := by simp
      rw [e] at h
      refine .inl ⟨by omega, .slice none 0 0, ?_, World.ownsRow_nil _ _ _ _, by simp [Value.ownBlock]⟩
      exact heap_alloc2_new w _ _⟩, ⟨below_alloc (below_alloc (Below.refl _ _) _) _⟩⟩
  case round =>
    obtain ⟨k, hk, rfl, HB, HW⟩ := hrel
    by_cases hlt : k < 32
    · have hkb : k < b.length := by rw [HA.out.len]; exact hlt
      obtain ⟨x, hx, hxx⟩ : ∃ x, cs[k]? = some (.int .u8 x) ∧ x = rd b k := ⟨_, HA.out.at_ k hkb, by simp [rd]⟩
      have HX := Aside0.mk hxx
      have hx0 : 0 ≤ x ∧ x < 256 := HA.out.wf x (by rw [hxx]; simp [rd, hkb])
      have HT := Aside0.mk (show b.take (k + 1) = b.take k ++ [x] by
        rw [List.take_succ_eq_append_getElem hkb, hxx]; simp [rd, hkb])
      have HL := Aside0.mk (show ((hexL (b.take k)).map (Value.int .u8)).length ≤ 64 by
        rw [List.length_map, hexL_length, List.length_take]; omega)
      have HL2 := Aside0.mk (show ((hexL (b.take k)).map (Value.int .u8) ++ [Value.int .u8 (rd dig (x / 16))]).length + 1 ≤ 140737488355328 by
        have := HL.out; simp only [List.length_append, List.length_singleton]; omega)
      clear hxx hkb
      have hix := fun W => index_agg (P := Try.prog) (t := 23) (e := 5) Try.underlying23 (by kernel_rfl) info5 Try.underlying5 cs k hlt HA.out.size x hx W
      have hd1 := fun W => index_dig .u8 (x / 16) (by omega) (by omega) W
      have hd2 := fun W => index_dig .u8 (x % 16) (by omega) (by omega) W
      clear hx
      go_wp2_with (first
        | (go_at_call 27; (with_reducible refine (writeByte_any w.heap.size (w.heap.size + 1) _ _ wr HB.out (by have := HL.out; omega) HW.out.size).mono ?_); rintro e w1 ⟨rfl, hb1, hbl1⟩; have HB1 := Aside0.mk (show Lib.IsBuilder 55 5 w.heap.size (w.heap.size + 1) _ w1 from Or.inr hb1); have HW1 := Aside0.mk (HW.out.trans hbl1); clear hb1 hbl1)
        | (go_at_call 27; (with_reducible refine (writeByte_any w.heap.size (w.heap.size + 1) _ _ w1 HB1.out HL2.out HW1.out.size).mono ?_); rintro e w2 ⟨rfl, hb1, hbl1⟩; have HB2 := Aside0.mk hb1; have HW2 := Aside0.mk (HW1.out.trans hbl1); clear hb1 hbl1))
      go_roundw
      case rel => exact ⟨k + 1, by omega, by go_num, ⟨Or.inr (by rw [HT.out, hexL_snoc]; simpa using HB2.out)⟩, HW2⟩
      case measure => simp [intOf]; omega
    · obtain rfl : k = 32 := by omega
      have HB' := Aside0.mk (show Lib.IsBuilder 55 5 w.heap.size (w.heap.size + 1) (Lib.byteCells ((hexL b).map fun n => UInt8.ofNat n.toNat)) wr by
        rw [cells_of _ (hexL_byte b HA.out.wf)]
        have := HB.out
        rwa [List.take_of_length_le (by rw [HA.out.len]; decide)] at this)
      go_wp2_with (first
        | (go_at_call 28; (with_reducible refine (Try.Builder_String_any w.heap.size (w.heap.size + 1) _ wr HB'.out HW.out.size).mono ?_); rintro e w1 ⟨rfl, hbl1⟩; have HW1 := Aside0.mk (HW.out.trans hbl1); clear hbl1))
      go_ret
      exact ⟨rfl, HW1.out⟩
end Go.Proofs.Ytcpcellocnojcaa

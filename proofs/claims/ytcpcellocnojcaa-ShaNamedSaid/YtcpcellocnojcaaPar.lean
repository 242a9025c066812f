import Derived.Test.YtcpcellocnojcaaParN
import Derived.Lib.OthersKept
import Derived.Laws.RangeAny
import Derived.Laws.ResultCell
namespace Go.Proofs.Ytcpcellocnojcaa
open Go Go.RowKit Go.Proofs.YtcpcellocnojcaaW.PrintWords
set_option linter.unusedVariables false
set_option linter.unusedSimpArgs false

/-- The cells of numbers. -/
def cellsN (l : List Int) : Array Value := (l.map (Value.int .u8)).toArray
theorem cellsN_size (l : List Int) : (cellsN l).size = l.length := by simp [cellsN]
theorem cellsN_set (l : List Int) (j : Nat) (x : Int) : cellsN (l.set j x) = (cellsN l).setIfInBounds j (.int .u8 x) := by
  simp [cellsN, List.map_set]
theorem cellsN_one (l : List Int) : (cellsN l).all (·.oneCell') = true := ints_one l
theorem zeroCells : (#[.int .u8 0, .int .u8 0, .int .u8 0, .int .u8 0, .int .u8 0, .int .u8 0, .int .u8 0, .int .u8 0, .int .u8 0, .int .u8 0, .int .u8 0, .int .u8 0, .int .u8 0, .int .u8 0, .int .u8 0, .int .u8 0, .int .u8 0, .int .u8 0, .int .u8 0, .int .u8 0, .int .u8 0, .int .u8 0, .int .u8 0, .int .u8 0, .int .u8 0, .int .u8 0, .int .u8 0, .int .u8 0, .int .u8 0, .int .u8 0, .int .u8 0, .int .u8 0] : Array Value) = cellsN zeros32 := rfl

theorem below_setCells {B g : Nat} {a : World} (hB : B ≤ g) : ∀ (vs : List Value) (o : Nat) (w : World), Below B a w → Below B a (w.setCells g o vs)
  | [], _, w, h => h
  | v :: r, o, w, h => below_setCells hB r (o + 1) _ (h.setCell (p := ⟨g, o, none⟩) hB v)
theorem ret_arr {fn : Func} {R : Ending → World → Prop} {p u : Tmp} {ty t : TypeId} {e : TypeId} {n : Nat} (h : fn.results = #[.cell p ty, .tmp u]) {a : Act} {W : World} (g : Nat) (fr : Nat × Nat) (l : List Int) (v : Value)
    (hp : a.tmps.getD p undef = .pointer (some ⟨g, 0, none⟩)) (hv : a.tmps.getD u undef = v) (hd : a.defers = []) (hg : W.heap[g]? = some (.cells (cellsN l) t fr))
    (hu : Try.prog.underlying ty = some (.array n e)) (hi : (Try.prog.info? ty).map (·.size) = some (cellsN l).size)
    (hR : R (.returned (.tuple #[.agg (cellsN l), v])) W) : bodyPost Try.prog fn R .ret a W := by
  refine bodyPost_ret (v := .tuple #[.agg (cellsN l), v]) ?_ hd hR
  rw [results_cell_tmp h, hp, hv]
  simp [asAddr, Result.andThen, run_loadVar_row W g t ty (cellsN l) fr _ hg hu rfl hi]

set_option maxHeartbeats 2000000 in
set_option maxRecDepth 20000 in
theorem parse_any (s : ByteArray) (w : World) :
    Calls Try.prog 13 #[.string s] w fun e w' => e = .returned (.tuple #[.agg (cellsN (parseB (bytesOf s))), .bool (good (bytesOf s))]) ∧ Below w.heap.size w w' := by
  have h23 := Try.underlying23
  by_cases hlen : s.size = 64
  · go_enter Try.func13, Try.ntmps13
    go_wp2
    go_loopw [] (fun wr => ∃ i : Nat, i ≤ 64 ∧ Aside0 (wr.heap[w.heap.size]? = some (.cells (cellsN zeros32) 23 (0, 0))) ∧ Aside0 (wr.heap[w.heap.size + 1]? = some (.cells (cellsN (preL (bytesOf s) i)) 23 (0, 0))) ∧
      Aside0 (wr.heap[w.heap.size + 1 + 1]? = some (.stringIter s i)) ∧ Aside0 (Below w.heap.size w wr) ∧ Aside0 (∀ k : Nat, k < i → 0 ≤ hexv (rd (bytesOf s) (k : Int)))) (fun wr => 64 - wr.iterPos (w.heap.size + 1 + 1))
    case atStart =>
      refine ⟨0, by omega, ⟨?_⟩, ⟨?_⟩, ⟨?_⟩, ⟨?_⟩, ⟨fun k hk => by omega⟩⟩
      · rw [World.iter, heap_alloc_old _ _ (by simp; omega), heap_alloc2_old]
        rw [zeroCells]
      · rw [World.iter, heap_alloc_old _ _ (by simp), heap_alloc2_new]
        rw [zeroCells, preL_zero]
      · have := World.iter_heap ((w.alloc (.cells (cellsN zeros32) 23)).alloc (.cells (cellsN zeros32) 23)) s 0
        simpa [zeroCells] using this
      · exact below_alloc (below_alloc (below_alloc (Below.refl _ _) _) _) _
    case round =>
      obtain ⟨i, hi, HZ, HP, HI, HB, HG⟩ := hrel
      by_cases hi64 : i < 64
      · have hp : i < s.size := by omega
        obtain ⟨c, hc⟩ : ∃ c, rd (bytesOf s) (i : Int) = c := ⟨_, rfl⟩
        have hcr : 0 ≤ c ∧ c < 256 := by rw [← hc]; exact byte_range s i
        have hix := fun W => index_str s .i64 i (by omega) (by omega) W
        rw [hc] at hix
        by_cases hgood : 0 ≤ hexv c
        · have hasc : (s[i]'hp).toNat < 128 := by
            have := byte_at s i (by omega) (by omega)
            rw [hc] at this
            simp only [Int.toNat_natCast] at this
            have : c < 128 := by unfold hexv at hgood; split at hgood <;> (try split at hgood) <;> omega
            omega
          have hnx : ∀ ty, (Instr.next (.pointer (some ⟨w.heap.size + 1 + 1, 0, none⟩)) true ty).run Try.prog wr = _ := fun ty => Lib.run_next_ascii_at wr (w.heap.size + 1 + 1) s i ty HI.out hp hasc
          have HLT := Aside0.mk (show w.heap.size + 1 + 1 < wr.heap.size from (Array.getElem?_eq_some_iff.1 HI.out).1)
          have HZ' := Aside0.mk ((Lib.iterAt_other wr (w.heap.size + 1 + 1) w.heap.size s (i + 1) (by omega)).trans HZ.out)
          have HP' := Aside0.mk ((Lib.iterAt_other wr (w.heap.size + 1 + 1) (w.heap.size + 1) s (i + 1) (by omega)).trans HP.out)
          have HI' := Aside0.mk (Lib.iterAt_heap wr (w.heap.size + 1 + 1) s i (i + 1) HI.out)
          have HB' := Aside0.mk (Lib.below_iterAt HB.out (k := w.heap.size + 1 + 1) (by omega) s (i + 1))
          generalize hWn : wr.iterAt (w.heap.size + 1 + 1) s (i + 1) = Wn at *
          clear hWn
          obtain ⟨o, ho⟩ : ∃ o, preV (bytesOf s) i (i / 2) = o := ⟨_, rfl⟩
          have hold : Wn.cell? ⟨w.heap.size + 1, i / 2, none⟩ = some (.int .u8 o) := by
            rw [cell_of_row _ _ _ _ 23 (0, 0) HP'.out]
            have := preL_at (bytesOf s) i (i / 2) (by omega)
            simp [cellsN, this, ho]
          have hfz : Wn.frozen? ⟨w.heap.size + 1, i / 2, none⟩ = false := by simp [World.frozen?, HP'.out]
          have hor : 0 ≤ o ∧ o < 16 := by rw [← ho]; exact preV_half _ _ HG.out
          have hh := indexByte_hex c hcr
          have HH := Aside0.mk hgood
          have HC := Aside0.mk hc
          have HO := Aside0.mk ho
          obtain ⟨n, hn⟩ : ∃ n, hexv c = n := ⟨_, rfl⟩
          have hn0 : 0 ≤ n ∧ n < 16 := by rw [← hn]; exact ⟨hgood, hexv_lt c⟩
          rw [hn] at hh
          have HN := Aside0.mk hn
          clear hn hgood hc ho hasc
          go_wp2_with (first
            | (go_at_call 29; refine (Try.strings_IndexByte _ c _).mono ?_; rintro e w1 ⟨rfl, rfl⟩; rw [hh]))
          refine ⟨⟨i + 1, by omega, ⟨(heap_setCell_other w1 _ _ _ (by simp)).trans HZ'.out⟩, ⟨?_⟩, ⟨(heap_setCell_other w1 _ _ _ (by simp)).trans HI'.out⟩, ⟨HB'.out.setCell (p := ⟨w.heap.size + 1, i / 2, none⟩) (by simp) _⟩, ⟨?_⟩⟩, ?_⟩
          · rw [heap_setCell_same w1 _ _ _ 23 _ HP'.out, preL_next _ _ hi64, HC.out, HN.out, HO.out, cellsN_set, or_digit o n hor hn0]
          · intro k hk
            rcases Nat.lt_or_ge k i with h | h
            · exact HG.out k h
            · obtain rfl : k = i := by omega
              rw [HC.out]; exact HH.out
          · have e1 : (w1.setCell ⟨w.heap.size + 1, i / 2, none⟩ (.int .u8 (Go.bits .or .u8 (o * 16) n))).heap[w.heap.size + 1 + 1]? = some (.stringIter s (i + 1)) := (heap_setCell_other w1 _ _ _ (by simp)).trans HI'.out
            simp only [World.iterPos, e1, HI.out]
            omega
        · have hnx : ∀ ty, (Instr.next (.pointer (some ⟨w.heap.size + 1 + 1, 0, none⟩)) true ty).run Try.prog wr = _ := fun ty => Lib.run_next_any_at wr (w.heap.size + 1 + 1) s i ty HI.out hp
          have hh := indexByte_hex c hcr
          have HBAD := Aside0.mk (show good (bytesOf s) = false by
            cases hb : good (bytesOf s) with
            | false => rfl
            | true => exact absurd (hc ▸ ((good_iff _).1 hb).2 i hi64) hgood)
          obtain ⟨wd, hwd⟩ : ∃ wd, (Utf8.decode s i).2 = wd := ⟨_, rfl⟩
          rw [hwd] at hnx
          have HZ' := Aside0.mk ((Lib.iterAt_other wr (w.heap.size + 1 + 1) w.heap.size s (i + wd) (by omega)).trans HZ.out)
          have HB' := Aside0.mk (Lib.below_iterAt HB.out (k := w.heap.size + 1 + 1) (by omega) s (i + wd))
          generalize hWn : wr.iterAt (w.heap.size + 1 + 1) s (i + wd) = Wn at *
          have hn : hexv c = -1 := by have := hexv_ge c; omega
          rw [hn] at hh
          have HSZ := Aside0.mk (show (Try.prog.info? 23).map (·.size) = some (cellsN zeros32).size from size23)
          clear hWn hgood hc hn hwd
          go_wp2_with (first
            | (go_at_call 29; refine (Try.strings_IndexByte _ c _).mono ?_; rintro e w1 ⟨rfl, rfl⟩; rw [hh])
            | (refine wpList_store_mid rfl 23 (.tmp 2) (.tmp 22) rfl w.heap.size 0 (cellsN zeros32) rfl rfl (there_cs HZ'.out rfl) HSZ.out (cellsN_one _) ?_))
          refine ret_arr (n := 32) (e := 5) (t := 23) rfl w.heap.size (0, 0) zeros32 (.bool false) rfl rfl rfl (setCells_row HZ'.out _ rfl) h23 HSZ.out ⟨?_, below_setCells (Nat.le_refl _) _ _ _ HB'.out⟩
          rw [parse_bad HBAD.out, HBAD.out]
      · obtain rfl : i = 64 := by omega
        have hnx : ∀ ty, (Instr.next (.pointer (some ⟨w.heap.size + 1 + 1, 0, none⟩)) true ty).run Try.prog wr = _ := fun ty => Lib.run_next_end_at wr (w.heap.size + 1 + 1) s 64 ty HI.out (by omega)
        have HGOOD := Aside0.mk (show good (bytesOf s) = true from (good_iff _).2 ⟨by rw [bytesOf_length]; exact hlen, HG.out⟩)
        have HPL := Aside0.mk (preL_full (bytesOf s) (by rw [bytesOf_length]; exact hlen))
        rw [HPL.out] at HP
        have HPS := Aside0.mk (show (pairs (bytesOf s)).length = 32 by rw [pairs_length, bytesOf_length, hlen])
        have HSZ := Aside0.mk (show (Try.prog.info? 23).map (·.size) = some (cellsN (pairs (bytesOf s))).size by rw [size23, cellsN_size, HPS.out])
        have HSZ2 := Aside0.mk (show (Try.prog.info? 23).map (·.size) = some (cellsN (pairs (bytesOf s))).toList.length by rw [size23, Array.length_toList, cellsN_size, HPS.out])
        have HZS := Aside0.mk (show (cellsN zeros32).size = (cellsN (pairs (bytesOf s))).size by rw [cellsN_size, cellsN_size, HPS.out]; rfl)
        go_wp2_with (first
          | (refine wpList_load_mid rfl 23 (.tmp 4) rfl (w.heap.size + 1) 0 rfl (cellsN (pairs (bytesOf s))).toList _ (range_cs HP.out) h23 rfl HSZ2.out ?_; rw [Array.toArray_toList])
          | (refine wpList_store_mid rfl 23 (.tmp 2) (.tmp 34) rfl w.heap.size 0 (cellsN (pairs (bytesOf s))) rfl rfl (there_cs HZ.out HZS.out) HSZ.out (cellsN_one _) ?_))
        refine ret_arr (n := 32) (e := 5) (t := 23) rfl w.heap.size (0, 0) (pairs (bytesOf s)) (.bool true) rfl rfl rfl (by have := setCells_row HZ.out (cellsN (pairs (bytesOf s))).toList (by rw [Array.length_toList, HZS.out]); rwa [Array.toArray_toList] at this) h23 HSZ.out ⟨?_, below_setCells (Nat.le_refl _) _ _ _ HB.out⟩
        rw [parse_good HGOOD.out, HGOOD.out]
  · have hn : ¬ ((s.size : Int) = 64) := by omega
    have HBAD := Aside0.mk (show good (bytesOf s) = false by
      cases hb : good (bytesOf s) with
      | false => rfl
      | true => have := ((good_iff _).1 hb).1; rw [bytesOf_length] at this; exact absurd this hlen)
    have HZ1 := Aside0.mk (show ((w.alloc (.cells (cellsN zeros32) 23)).alloc (.cells (cellsN zeros32) 23)).heap[w.heap.size]? = some (.cells (cellsN zeros32) 23 (0, 0)) from heap_alloc2_old w _ _)
    have HZ2 := Aside0.mk (show ((w.alloc (.cells (cellsN zeros32) 23)).alloc (.cells (cellsN zeros32) 23)).heap[w.heap.size + 1]? = some (.cells (cellsN zeros32) 23 (0, 0)) from heap_alloc2_new w _ _)
    have HB := Aside0.mk (below_alloc (below_alloc (Below.refl w.heap.size w) (.cells (cellsN zeros32) 23)) (.cells (cellsN zeros32) 23))
    have HSZ := Aside0.mk (show (Try.prog.info? 23).map (·.size) = some (cellsN zeros32).size from size23)
    have HSZ2 := Aside0.mk (show (Try.prog.info? 23).map (·.size) = some (cellsN zeros32).toList.length from size23)
    clear hlen
    go_enter Try.func13, Try.ntmps13
    go_wp2_with (first
      | (refine wpList_load_mid rfl 23 (.tmp 4) rfl (w.heap.size + 1) 0 rfl (cellsN zeros32).toList _ (range_cs HZ2.out) h23 rfl HSZ2.out ?_; rw [Array.toArray_toList])
      | (refine wpList_store_mid rfl 23 (.tmp 2) (.tmp 10) rfl w.heap.size 0 (cellsN zeros32) rfl rfl (there_cs HZ1.out rfl) HSZ.out (cellsN_one _) ?_))
    refine ret_arr (n := 32) (e := 5) (t := 23) rfl w.heap.size (0, 0) zeros32 (.bool false) rfl rfl rfl (setCells_row HZ1.out _ rfl) h23 HSZ.out ⟨?_, below_setCells (Nat.le_refl _) _ _ _ HB.out⟩
    rw [parse_bad HBAD.out, HBAD.out]
end Go.Proofs.Ytcpcellocnojcaa

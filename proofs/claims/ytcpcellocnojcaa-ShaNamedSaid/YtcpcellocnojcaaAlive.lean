/- 'alive' holds: the sum of "abc" is the known one. No condition. -/
import Derived.Test.YtcpcellocnojcaaSumW
import Derived.Lib.SlBytesConst
namespace Go.Proofs.Ytcpcellocnojcaa
open Go Go.RowKit Go.Proofs.YtcpcellocnojcaaW.PrintWords
set_option linter.unusedVariables false
set_option linter.unusedSimpArgs false

def abcM : List Int := [186, 120, 22, 191, 143, 1, 207, 234, 65, 65, 64, 222, 93, 174, 34, 35, 176, 3, 97, 163, 150, 23, 122, 156, 180, 16, 255, 97, 242, 0, 21, 173]
set_option maxRecDepth 100000 in
theorem sum_abc : sumF [97, 98, 99] = abcM := by decide +kernel
theorem C_litf (w : World) (cs : Array Value) (t : TypeId) (fr : Nat × Nat) (l : List Int) (h : cs.toList = l.map (Value.int .u8)) (hl : l.length ≤ 9223372036854775807) : (Kd.int .u8).C (w.alloc (.cells cs t fr)) (some ⟨w.heap.size, 0, none⟩) l.length l :=
  C_new w cs t fr l (fun j hj => by
    have h1 : cs[j]? = cs.toList[j]? := by simp
    rw [h1, h]
    simp [hj]) hl
theorem C_lit (w : World) (cs : Array Value) (t : TypeId) (l : List Int) (h : cs.toList = l.map (Value.int .u8)) (hl : l.length ≤ 9223372036854775807) : (Kd.int .u8).C (w.alloc (.cells cs t)) (some ⟨w.heap.size, 0, none⟩) l.length l :=
  C_new w cs t (0, 0) l (fun j hj => by
    have h1 : cs[j]? = cs.toList[j]? := by simp
    rw [h1, h]
    simp [hj]) hl
theorem size23b (l : List Int) (h : l.length = 32) : (Try.prog.info? 23).map (·.size) = some ((l.map (Value.int .u8)).toArray).size := by rw [size23]; simp [h]
theorem zsz (l : List Int) (h : l.length = 32) : ((List.replicate 32 (0 : Int)).map (Value.int .u8)).toArray.size = ((l.map (Value.int .u8)).toArray).size := by simp [h]
set_option maxRecDepth 20000 in
theorem alive_any (w : World) : Calls Try.prog 17 #[] w fun e w' => e = .returned (.bool true) ∧ Below w.heap.size w w' := by
  have hcv := fun (W : World) (C : Array Value) (n c : Nat) => Lib.run_convert_bytes_const (P := Try.prog) W 32 5 C n c Try.underlying32 Try.underlying5
  go_enter Try.func17, Try.ntmps17
  have HC := Aside0.mk (show Calls Try.prog 19 #[.slice (some ⟨w.heap.size, 0, none⟩) 3 3] (w.alloc (.cells #[.int .u8 97, .int .u8 98, .int .u8 99] 5 (3, 4))) fun e w' => e = .returned (.agg ((abcM.map (Value.int .u8)).toArray)) ∧ Below (w.alloc (.cells #[.int .u8 97, .int .u8 98, .int .u8 99] 5 (3, 4))).heap.size (w.alloc (.cells #[.int .u8 97, .int .u8 98, .int .u8 99] 5 (3, 4))) w' by
    have h := sum_any (some ⟨w.heap.size, 0, none⟩) 3 [97, 98, 99] (w.alloc (.cells #[.int .u8 97, .int .u8 98, .int .u8 99] 5 (3, 4))) (C_litf w _ 5 (3, 4) [97, 98, 99] rfl (by decide)) (by decide) (by decide)
    rw [sum_abc] at h
    exact h)
  go_wp2_with (first
    | (go_at_call 19; (with_reducible refine HC.out.mono ?_); rintro e w1 ⟨rfl, hb⟩; have HB := Aside0.mk (below_step (below_alloc (Below.refl w.heap.size w) _) hb); clear hb;
        have h0 : (w1.alloc (.cells ((abcM.map (Value.int .u8)).toArray) 23)).cell? ⟨w1.heap.size, 0, none⟩ = some (.int .u8 186) := blk_cell (heap_alloc_new w1 _) 0;
        have h1 : (w1.alloc (.cells ((abcM.map (Value.int .u8)).toArray) 23)).cell? ⟨w1.heap.size, 1, none⟩ = some (.int .u8 120) := blk_cell (heap_alloc_new w1 _) 1;
        have h2 : (w1.alloc (.cells ((abcM.map (Value.int .u8)).toArray) 23)).cell? ⟨w1.heap.size, 2, none⟩ = some (.int .u8 22) := blk_cell (heap_alloc_new w1 _) 2;
        have h3 : (w1.alloc (.cells ((abcM.map (Value.int .u8)).toArray) 23)).cell? ⟨w1.heap.size, 3, none⟩ = some (.int .u8 191) := blk_cell (heap_alloc_new w1 _) 3;
        have h31 : (w1.alloc (.cells ((abcM.map (Value.int .u8)).toArray) 23)).cell? ⟨w1.heap.size, 31, none⟩ = some (.int .u8 173) := blk_cell (heap_alloc_new w1 _) 31)
    | ((with_reducible refine arm_store_new (ty := 23) (c' := (abcM.map (Value.int .u8)).toArray) ?_ ?_ (size23b abcM rfl) ?_ (ints_one abcM) ?_); rfl; rfl; rfl; have HW2 := Aside0.mk (below_alloc HB.out (.cells ((abcM.map (Value.int .u8)).toArray) 23)); generalize w1.alloc (.cells ((abcM.map (Value.int .u8)).toArray) 23) = w2 at *))
  go_ret
  exact ⟨rfl, HW2.out⟩
end Go.Proofs.Ytcpcellocnojcaa

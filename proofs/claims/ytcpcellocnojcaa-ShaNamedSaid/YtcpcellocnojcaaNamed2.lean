import Derived.Test.YtcpcellocnojcaaNamed
namespace Go.Proofs.Ytcpcellocnojcaa
open Go Go.RowKit Go.Proofs.YtcpcellocnojcaaW.PrintWords
set_option linter.unusedVariables false
set_option linter.unusedSimpArgs false

set_option maxRecDepth 100000 in
set_option maxHeartbeats 1600000 in
theorem slow_any (pl : Addr) (g : Nat) (A : Option Addr) (c : Nat) (l : List Int) (w : World) (hp : w.cell? pl = some (.pointer (some ⟨g, 0, none⟩))) (hpg : pl.block ≠ g)
    (hN : w.heap[g]? = some (.cells (nm (.slice A l.length c) 0 0 z32 0) 92 (0, 0))) (hC : (Kd.int .u8).C w A l.length l) (hne : ∀ ad, A = some ad → ad.block ≠ g) (hc : l.length ≤ c) (hl : l.length ≤ 140737488351232) :
    Calls Try.prog 52 #[.pointer (some ⟨g, 1, none⟩), .func (.func 41) #[] #[.pointer (some pl)]] w fun e w' => e = .returned (.tuple #[]) ∧ w'.heap[g]? = some (.cells (nm (.slice A l.length c) 1 0 (sumF l) 1) 92 (0, 0)) ∧ w.grownBy w' (some g) := by
  have hc2 : w.cell? ⟨g, 2, none⟩ = some (.int .i32 0) := (nm_cell hN rfl).2.2.1
  have hc1 : w.cell? ⟨g, 1, none⟩ = some (.int .u32 0) := (nm_cell hN rfl).2.1
  have hf2 : w.frozen? ⟨g, 2, none⟩ = false := blk_frozen hN 2
  have hl1 := run_call_load (P := Try.prog) Try.func59 (by kernel_rfl) (by kernel_rfl) (by kernel_rfl) .u32 (by kernel_rfl) (w := w.setCell ⟨g, 2, none⟩ (.int .i32 1)) (a := ⟨g, 1, none⟩) (x := 0) ((World.cell?_setCell_other _ ⟨g, 2, none⟩ ⟨g, 1, none⟩ _ (by simp)).trans hc1)
  have hnot : ∀ (x : Bool) (w : World), (Op.unary .not (.bool x)).run Try.prog w = .ok (.bool (!x)) w := fun _ _ => rfl
  have HCL := Aside0.mk (closure_any pl g A c l (w.setCell ⟨g, 2, none⟩ (.int .i32 1)) ((World.cell?_setCell_other _ ⟨g, 2, none⟩ pl _ (fun h => hpg (by rw [← h]))).trans hp) hpg
    (by rw [heap_setCell_same w g _ _ 92 _ hN, nm_m]) (C_grown hC (grown_set _ _ _ _) hne) hc hl)
  have HG0 := Aside0.mk (grown_set w g 2 (.int .i32 1))
  clear hp hpg hN hC hne hc hl hc1
  go_enter_defers Try.func52, Try.ntmps52
  go_wp2_with (first
    | (go_at_call 60; refine (lock_free ⟨g, 2, none⟩ _ hc2 hf2).mono ?_; rintro e w' ⟨rfl, rfl⟩)
    | (go_at_call 51; go_in)
    | (go_at_call 41; refine HCL.out.mono ?_; rintro e w3 ⟨rfl, h3, g3⟩; have HN3 := Aside0.mk h3; have HG3 := Aside0.mk (grown_trans' HG0.out g3); clear h3 g3))
  have hd1 : w3.cell? ⟨g, 1, none⟩ = some (.int .u32 0) := (nm_cell HN3.out (sumF_len l)).2.1
  have HN4 := Aside0.mk (show (w3.drew.setCell ⟨g, 1, none⟩ (.int .u32 1)).heap[g]? = some (.cells (nm (.slice A l.length c) 1 1 (sumF l) 1) 92 (0, 0)) by
    rw [heap_setCell_same w3.drew g _ _ 92 _ (show w3.drew.heap[g]? = _ from HN3.out), nm_d])
  refine leaves_cons (f := 62) (args := #[.pointer (some ⟨g, 1, none⟩), .bool true]) (by simp) (by simp [go_sem]) ?_
  refine (store_deferred ⟨g, 1, none⟩ (.int .u32 0) .returning _ hd1 (blk_frozen HN3.out 1)).mono ?_
  rintro e u' w'' ⟨rfl, rfl, rfl⟩
  refine leaves_cons (f := 61) (args := #[.pointer (some ⟨g, 2, none⟩)]) (by simp [settle]) (by simp [go_sem]) ?_
  refine (unlock_deferred ⟨g, 2, none⟩ _ _ (nm_cell HN4.out (sumF_len l)).2.2.1 (blk_frozen HN4.out 2)).mono ?_
  rintro e u' w'' ⟨rfl, rfl, rfl⟩
  have hfin : ((w3.drew.setCell ⟨g, 1, none⟩ (.int .u32 1)).setCell ⟨g, 2, none⟩ (.int .i32 0)).heap[g]? = some (.cells (nm (.slice A l.length c) 1 0 (sumF l) 1) 92 (0, 0)) := by
    rw [heap_setCell_same _ g _ _ 92 _ HN4.out, nm_m]
  have hgr : w.grownBy ((w3.drew.setCell ⟨g, 1, none⟩ (.int .u32 1)).setCell ⟨g, 2, none⟩ (.int .i32 0)) (some g) :=
    grown_trans' (grown_trans' (grown_drew HG3.out) (grown_set _ _ _ _)) (grown_set _ _ _ _)
  generalize (w3.drew.setCell ⟨g, 1, none⟩ (.int .u32 1)).setCell ⟨g, 2, none⟩ (.int .i32 0) = wf at *
  simp [Leaves, settle, results, Try.results52]
  exact ⟨hfin, hgr⟩

set_option maxRecDepth 100000 in
set_option maxHeartbeats 1600000 in
/-- '(*sync.Once).Do', not yet done, the lock free. -/
theorem do_first (pl : Addr) (g : Nat) (A : Option Addr) (c : Nat) (l : List Int) (w : World) (hp : w.cell? pl = some (.pointer (some ⟨g, 0, none⟩))) (hpg : pl.block ≠ g)
    (hN : w.heap[g]? = some (.cells (nm (.slice A l.length c) 0 0 z32 0) 92 (0, 0))) (hC : (Kd.int .u8).C w A l.length l) (hne : ∀ ad, A = some ad → ad.block ≠ g) (hc : l.length ≤ c) (hl : l.length ≤ 140737488351232) :
    Calls Try.prog 40 #[.pointer (some ⟨g, 1, none⟩), .func (.func 41) #[] #[.pointer (some pl)]] w fun e w' => e = .returned (.tuple #[]) ∧ w'.heap[g]? = some (.cells (nm (.slice A l.length c) 1 0 (sumF l) 1) 92 (0, 0)) ∧ w.grownBy w' (some g) := by
  have hc1 : w.cell? ⟨g, 1, none⟩ = some (.int .u32 0) := (nm_cell hN rfl).2.1
  have hl1 := run_call_load (P := Try.prog) Try.func59 (by kernel_rfl) (by kernel_rfl) (by kernel_rfl) .u32 (by kernel_rfl) hc1
  have hnot : ∀ (x : Bool) (w : World), (Op.unary .not (.bool x)).run Try.prog w = .ok (.bool (!x)) w := fun _ _ => rfl
  have HSL := Aside0.mk (slow_any pl g A c l w hp hpg hN hC hne hc hl)
  clear hp hpg hN hC hne hc hl hc1
  go_enter Try.func40, Try.ntmps40
  go_wp2_with (first
    | (go_at_call 52; refine HSL.out.mono ?_; rintro e w' ⟨rfl, h3, g3⟩; have HN3 := Aside0.mk h3; have HG3 := Aside0.mk g3; clear h3 g3)
    | (go_at_call 51; go_in))
  go_end0
  exact ⟨rfl, HN3.out, HG3.out⟩
set_option maxRecDepth 100000 in
/-- '(*sync.Once).Do', done already. -/
theorem do_done (a : Addr) (fv : Value) (w : World) (h0 : w.cell? a = some (.int .u32 1)) :
    Calls Try.prog 40 #[.pointer (some a), fv] w fun e w' => e = .returned (.tuple #[]) ∧ w' = w := by
  have hl := run_call_load (P := Try.prog) Try.func59 (by kernel_rfl) (by kernel_rfl) (by kernel_rfl) .u32 (by kernel_rfl) h0
  have hnot : ∀ (x : Bool) (w : World), (Op.unary .not (.bool x)).run Try.prog w = .ok (.bool (!x)) w := fun _ _ => rfl
  go_enter Try.func40, Try.ntmps40
  go_wp2
  go_end0
  exact ⟨rfl, rfl⟩
end Go.Proofs.Ytcpcellocnojcaa

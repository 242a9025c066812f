import Derived.Test.YtcpcellocnojcaaRot
import Derived.Test.YtcpcellocnojcaaBlk
namespace Go.Proofs.Ytcpcellocnojcaa
open Go Go.RowKit Go.Proofs.YtcpcellocnojcaaW.PrintWords
set_option linter.unusedVariables false
set_option linter.unusedSimpArgs false

abbrev wr32 (x : Int) : Int := IntKind.u32.wrap x
def u32s (l : List Int) : Array Value := (l.map (Value.int .u32)).toArray
theorem u32s_get (l : List Int) (i : Nat) (h : i < l.length) : (u32s l)[i]? = some (.int .u32 (rd l i)) := by
  simp [u32s, rd, h]
theorem u32s_size (l : List Int) : (u32s l).size = l.length := by simp [u32s]
theorem u32_cell {w : World} {g : Nat} {t : TypeId} {l : List Int} (h : w.heap[g]? = some (.cells (u32s l) t (0, 0))) (i : Nat) (hi : i < l.length) : w.cell? ⟨g, i, none⟩ = some (.int .u32 (rd l i)) := by
  rw [blk_cell h]; exact u32s_get l i hi
theorem u32s_set (l : List Int) (i : Nat) (x : Int) : (u32s l).setIfInBounds i (.int .u32 x) = u32s (l.set i x) := by
  simp [u32s, List.map_set]
/-- A list, and noughts behind it up to 64. -/
def pad64 (l : List Int) : List Int := l ++ List.replicate (64 - l.length) 0
theorem pad64_len (l : List Int) (h : l.length ≤ 64) : (pad64 l).length = 64 := by simp [pad64]; omega
theorem pad64_set (l : List Int) (x : Int) (h : l.length < 64) : (pad64 l).set l.length x = pad64 (l ++ [x]) := by
  unfold pad64
  rw [List.set_append_right _ _ (Nat.le_refl _), Nat.sub_self, show 64 - l.length = (64 - (l ++ [x]).length) + 1 by simp; omega, List.replicate_succ, List.set_cons_zero]
  simp
theorem rd_pad (l : List Int) (i : Nat) (h : i < l.length) : rd (pad64 l) i = rd l i := by
  simp [rd, pad64, List.getD_eq_getElem?_getD, List.getElem?_append, h]
/-- Four bytes as a word. -/
def wordOf (a b c d : Int) : Int := Go.bits .or .u32 (Go.bits .or .u32 (Go.bits .or .u32 (wr32 (wr32 a * 16777216)) (wr32 (wr32 b * 65536))) (wr32 (wr32 c * 256))) (wr32 d)
def wordAt (l : List Int) (i : Nat) : Int := wordOf (rd l (4 * i : Nat)) (rd l (4 * i + 1 : Nat)) (rd l (4 * i + 2 : Nat)) (rd l (4 * i + 3 : Nat))
def wordsN (l : List Int) : Nat → List Int
  | 0 => []
  | n + 1 => wordsN l n ++ [wordAt l n]
theorem wordsN_len (l : List Int) : ∀ n, (wordsN l n).length = n
  | 0 => rfl
  | n + 1 => by show (wordsN l n ++ [_]).length = _; rw [List.length_append, wordsN_len l n]; rfl
def sig0 (x : Int) : Int := Go.bits .xor .u32 (Go.bits .xor .u32 (rotR x 7) (rotR x 18)) (x / 8)
def sig1 (x : Int) : Int := Go.bits .xor .u32 (Go.bits .xor .u32 (rotR x 17) (rotR x 19)) (x / 1024)
/-- The word that follows. -/
def nextW (ws : List Int) : Int := (sig1 (rd ws (ws.length - 2 : Nat)) + rd ws (ws.length - 7 : Nat) + sig0 (rd ws (ws.length - 15 : Nat)) + rd ws (ws.length - 16 : Nat)) % 4294967296
def sched (ws : List Int) : Nat → List Int
  | 0 => ws
  | n + 1 => sched ws n ++ [nextW (sched ws n)]
theorem sched_len (ws : List Int) : ∀ n, (sched ws n).length = ws.length + n
  | 0 => rfl
  | n + 1 => by show (sched ws n ++ [_]).length = _; rw [List.length_append, sched_len ws n]; rfl
theorem size69 : (Try.prog.info? 69).map (·.size) = some 8 := by kernel_rfl
theorem u32s_one (l : List Int) : (u32s l).all (·.oneCell') = true := by simp [u32s, Value.oneCell']
/-- What a round adds. -/
def addE (v4 v5 v6 v7 kk ww : Int) : Int := v7 + turnR v4 6 11 25 + Go.bits .xor .u32 (Go.bits .and .u32 v4 v5) (Go.bits .and .u32 (Go.bits .xor .u32 IntKind.u32.max v4) v6) + kk + ww
def addA (v0 v1 v2 : Int) : Int := (turnR v0 2 13 22 + Go.bits .xor .u32 (Go.bits .xor .u32 (Go.bits .and .u32 v0 v1) (Go.bits .and .u32 v0 v2)) (Go.bits .and .u32 v1 v2))
/-- A round. -/
def rndStep (v : List Int) (kk ww : Int) : List Int :=
  ((rd v 0 :: v.take 7).set 4 ((rd v 3 + addE (rd v 4) (rd v 5) (rd v 6) (rd v 7) kk ww) % 4294967296)).set 0 ((addE (rd v 4) (rd v 5) (rd v 6) (rd v 7) kk ww + addA (rd v 0) (rd v 1) (rd v 2)) % 4294967296)
theorem rndStep_len (v : List Int) (kk ww : Int) (h : v.length = 8) : (rndStep v kk ww).length = 8 := by
  unfold rndStep
  rw [List.length_set, List.length_set, List.length_cons, List.length_take, h]
  rfl
def rnds (k S h : List Int) : Nat → List Int
  | 0 => h
  | n + 1 => rndStep (rnds k S h n) (rd k n) (rd S n)
theorem rnds_len (k S h : List Int) (hh : h.length = 8) : ∀ n, (rnds k S h n).length = 8
  | 0 => hh
  | n + 1 => rndStep_len _ _ _ (rnds_len k S h hh n)
theorem eight {α : Type} (l : List α) (h : l.length = 8) : ∃ a b c d e f g x, l = [a, b, c, d, e, f, g, x] := by
  match l, h with
  | [a, b, c, d, e, f, g, x], _ => exact ⟨a, b, c, d, e, f, g, x, rfl⟩
theorem rndStep8 (a b c d e f g x kk ww : Int) : rndStep [a, b, c, d, e, f, g, x] kk ww = [(addE e f g x kk ww + addA a b c) % 4294967296, a, b, c, (d + addE e f g x kk ww) % 4294967296, e, f, g] := rfl
def setAll (l : List Int) (o : Nat) : List Int → List Int
  | [] => l
  | v :: r => setAll (l.set o v) (o + 1) r
theorem setCells_u32 {g : Nat} {t : TypeId} : ∀ (vs : List Int) (o : Nat) (l : List Int) (w : World), w.heap[g]? = some (.cells (u32s l) t (0, 0)) → (w.setCells g o (vs.map (Value.int .u32))).heap[g]? = some (.cells (u32s (setAll l o vs)) t (0, 0))
  | [], _, _, _, h => h
  | v :: r, o, l, w, h => by
    have h1 : (w.setCell ⟨g, o, none⟩ (.int .u32 v)).heap[g]? = some (.cells (u32s (l.set o v)) t (0, 0)) := by
      rw [heap_setCell_same w _ _ _ t _ h, u32s_set]
    exact setCells_u32 r (o + 1) _ _ h1
theorem copy8 (w : World) (g : Nat) (t ty : TypeId) (a b c d e f x y : Int) (h : w.heap[g]? = some (.cells (u32s [a, b, c, d, e, f, x, y]) t (0, 0))) :
    (Builtin.copy_ #[37, 37] ty #[.slice (some ⟨g, 1, none⟩) 7 7, .slice (some ⟨g, 0, none⟩) 7 8]).run Try.prog w = .ok (goInt 7) (w.setCells g 1 ([a, b, c, d, e, f, x].map (Value.int .u32))) := by
  have hu : Try.prog.underlying 37 = some (.slice 66) := Try.underlying37
  have hs : (Try.prog.info? 66).map (·.size) = some 1 := by kernel_rfl
  refine run_copy_cells (P := Try.prog) w 37 37 ty 66 g 1 7 7 ⟨g, 0, none⟩ 7 8 ([a, b, c, d, e, f, x].map (Value.int .u32)) hu hs rfl (fun j v hv => ?_) (fun j hj => ?_) (fun j hj => ?_) (fun v hv => ?_)
  · have hj : j < 7 := by
      rcases Nat.lt_or_ge j 7 with h | h
      · exact h
      · rw [List.getElem?_eq_none (by simpa using h)] at hv; cases hv
    rw [add_plain, u32_cell h j (by show j < 8; omega), ← hv]
    match j, hj with
    | 0, _ | 1, _ | 2, _ | 3, _ | 4, _ | 5, _ | 6, _ => rfl
  · have hj : j < 7 := hj
    rw [u32_cell h (1 + j) (by show 1 + j < 8; omega)]; rfl
  · exact blk_frozen h _
  · obtain ⟨z, _, rfl⟩ := List.mem_map.1 hv
    rfl
theorem step_copy8 {ops : Array Oper} {o : Oper} {a : Act} {Q : Exit → Act → World → Prop} {K : Act → World → Prop} {W w1 : World} {E : Prop} {x y : Operand} {vx vy v : Value} (hw : Region.wanted o (yielded ops a.tmps) = true)
    (ho : o.op = .call { callee := .builtin .copy, args := #[x, y], argTypes := #[37, 37] }) (hx : a.eval x = vx) (hy : a.eval y = vy)
    (hr : ∀ ty, (Builtin.copy_ #[37, 37] ty #[vx, vy]).run Try.prog W = .ok v w1) (h : K (a.put o.dst v) w1) :
    if Region.wanted o (yielded ops a.tmps) = true then Oper.wp Try.prog o a W K Q else E := by
  rw [if_pos hw]
  unfold Oper.wp execOp
  simp only [ho, resolve, invoke, builtin, Sem.run_bind, Sem.run_pure, Result.andThen_ok, List.map_toArray, List.map_cons, List.map_nil, hx, hy, hr]
  exact h
def addTo (H V : List Int) : Nat → List Int
  | 0 => H
  | n + 1 => (addTo H V n).set n ((rd H n + rd V n) % 4294967296)
theorem addTo_len (H V : List Int) : ∀ n, (addTo H V n).length = H.length
  | 0 => rfl
  | n + 1 => by show ((addTo H V n).set n _).length = _; rw [List.length_set, addTo_len H V n]
theorem addTo_rd (H V : List Int) : ∀ n j : Nat, n ≤ j → rd (addTo H V n) j = rd H j
  | 0, _, _ => rfl
  | n + 1, j, h => by
    rw [← addTo_rd H V n j (by omega)]
    show rd ((addTo H V n).set n _) j = _
    simp [rd, List.getD_eq_getElem?_getD, List.getElem?_set, show ¬ n = j by omega]
/-- A block taken. -/
def blkF (H k l : List Int) : List Int := addTo H (rnds k (sched (wordsN l 16) 48) H 64) 8
theorem blkF_len (H k l : List Int) (h : H.length = 8) : (blkF H k l).length = 8 := by unfold blkF; rw [addTo_len, h]
theorem grown_set (w : World) (g j : Nat) (u : Value) : w.grownBy (w.setCell ⟨g, j, none⟩ u) (some g) :=
  ⟨rfl, rfl, rfl, by simp [World.setCell], fun k hk hne => Below.heap_setCell w _ _ _ (fun e => hne (by subst e; rfl))⟩
theorem grown_trans' {a b c : World} {r : Option Nat} (h : a.grownBy b r) (k : b.grownBy c r) : a.grownBy c r := World.grownBy.trans h k
theorem grown_drew {a w : World} {row : Option Nat} (h : a.grownBy w row) : a.grownBy w.drew row := ⟨h.os, h.tape, h.output, h.size, h.block⟩
end Go.Proofs.Ytcpcellocnojcaa

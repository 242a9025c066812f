import Derived.Test.YtcpcellocnojcaaSumP
namespace Go.Proofs.Ytcpcellocnojcaa
open Go Go.RowKit Go.Proofs.YtcpcellocnojcaaW.PrintWords
set_option linter.unusedVariables false
set_option linter.unusedSimpArgs false

/-- So many blocks taken. -/
def foldN (k : List Int) : Nat → List Int → List Int → List Int
  | 0, H, _ => H
  | n + 1, H, l => foldN k n (blkF H k l) (l.drop 64)
theorem foldN_len (k : List Int) : ∀ (n : Nat) (H l : List Int), H.length = 8 → (foldN k n H l).length = 8
  | 0, _, _, h => h
  | n + 1, H, l, h => foldN_len k n _ _ (blkF_len H k l h)
theorem foldN_add (k : List Int) : ∀ (i j : Nat) (H l : List Int), foldN k (i + j) H l = foldN k j (foldN k i H l) (l.drop (64 * i))
  | 0, j, H, l => by simp [foldN]
  | i + 1, j, H, l => by
    rw [show i + 1 + j = (i + j) + 1 by omega]
    show foldN k (i + j) (blkF H k l) (l.drop 64) = _
    rw [foldN_add k i j, List.drop_drop, show 64 + 64 * i = 64 * (i + 1) by omega]
    rfl
theorem foldN_succ (k : List Int) (i : Nat) (H l : List Int) : foldN k (i + 1) H l = blkF (foldN k i H l) k (l.drop (64 * i)) := foldN_add k i 1 H l
theorem rd_append_left (l p : List Int) (i : Nat) (h : i < l.length) : rd (l ++ p) i = rd l i := by
  simp [rd, List.getD_eq_getElem?_getD, List.getElem?_append, h]
theorem wordsN_append (l p : List Int) : ∀ n, 4 * n ≤ l.length → wordsN (l ++ p) n = wordsN l n
  | 0, _ => rfl
  | n + 1, h => by
    show wordsN (l ++ p) n ++ [wordAt (l ++ p) n] = wordsN l n ++ [wordAt l n]
    rw [wordsN_append l p n (by omega)]
    unfold wordAt
    rw [rd_append_left l p _ (by omega), rd_append_left l p _ (by omega), rd_append_left l p _ (by omega), rd_append_left l p _ (by omega)]
theorem blkF_append (H k l p : List Int) (h : 64 ≤ l.length) : blkF H k (l ++ p) = blkF H k l := by
  unfold blkF
  rw [wordsN_append l p 16 (by omega)]
theorem foldN_append (k : List Int) (p : List Int) : ∀ (n : Nat) (H l : List Int), 64 * n ≤ l.length → foldN k n H (l ++ p) = foldN k n H l
  | 0, _, _, _ => rfl
  | n + 1, H, l, h => by
    show foldN k n (blkF H k (l ++ p)) ((l ++ p).drop 64) = foldN k n (blkF H k l) (l.drop 64)
    rw [blkF_append H k l p (by omega), List.drop_append_of_le_length (by omega), foldN_append k p n _ _ (by rw [List.length_drop]; omega)]
theorem info66 : (Try.prog.info? 66).map (·.size) = some 1 := by kernel_rfl
theorem index32 (cs : Array Value) (k : Nat) (hk : k < 8) (hs : cs.size = 8) (x : Int) (hx : cs[k]? = some (.int .u32 x)) (W : World) :
    (Instr.index 69 (.agg cs) (.int .i64 k)).run Try.prog W = .ok (.int .u32 x) W := by
  have hu : Try.prog.underlying 69 = some (.array 8 66) := Try.underlying69
  have hc := info66
  cases hq : Try.prog.info? 66 with
  | none => simp [hq] at hc
  | some i =>
    have hz : i.size = 1 := by simpa [hq] using hc
    have hagg : (isAgg 66).run Try.prog W = .ok false W := by
      unfold isAgg
      rw [Sem.run_bind, run_underlying Try.underlying66 W]
      simp
    simp [Instr.index, run_underlying hu, asIntOf, go_sem, hk, hs, sizeOf, typeInfo, hq, hz, hagg, hx]
    rw [Array.getElem?_eq_getElem (by omega)] at hx
    exact Option.some.inj hx
/-- How many noughts stand behind. -/
def zN (q : Nat) : Nat := (119 - q % 64) % 64
def lbyte (n i : Nat) : Int := ((n : Int) * 8) / 2 ^ (8 * i) % 256
def len8 (n : Nat) : List Int := [lbyte n 7, lbyte n 6, lbyte n 5, lbyte n 4, lbyte n 3, lbyte n 2, lbyte n 1, lbyte n 0]
/-- What stands behind n bytes. -/
def padL (n : Nat) : List Int := 128 :: (List.replicate (zN n) 0 ++ len8 n)
theorem padL_len (n : Nat) : (padL n).length = zN n + 9 := by simp [padL, len8]
theorem full_mod (n : Nat) : (n + (zN n + 9)) % 64 = 0 := by unfold zN; omega
theorem len8_take (N n : Nat) (h : n < 8) : (len8 N).take (n + 1) = (len8 N).take n ++ [lbyte N (7 - n)] := by
  match n, h with
  | 0, _ | 1, _ | 2, _ | 3, _ | 4, _ | 5, _ | 6, _ | 7, _ => rfl
theorem lbyte_of (N n : Nat) (x : Int) (hN : N ≤ 140737488351232) (hx : x = 7 - n) (h : 0 ≤ x) : IntKind.u64.wrap (IntKind.u64.wrap (N : Int) * 8) / 2 ^ (8 * x).toNat % 256 = lbyte N (7 - n) := by
  have h1 : IntKind.u64.wrap (N : Int) = N := by rw [IntKind.wrap_u64]; omega
  have h2 : IntKind.u64.wrap ((N : Int) * 8) = (N : Int) * 8 := by rw [IntKind.wrap_u64]; omega
  rw [h1, h2]
  unfold lbyte
  rw [show (8 * x).toNat = 8 * (7 - n) by omega]
def out4 (x : Int) : List Int := [x / 16777216 % 256, x / 65536 % 256, x / 256 % 256, x % 256]
def outN (H : List Int) : Nat → List Int
  | 0 => []
  | n + 1 => outN H n ++ out4 (rd H n)
theorem outN_len (H : List Int) : ∀ n, (outN H n).length = 4 * n
  | 0 => rfl
  | n + 1 => by show (outN H n ++ out4 _).length = _; rw [List.length_append, outN_len H n]; simp [out4]; omega
theorem outN_byte (H : List Int) : ∀ n, ∀ x ∈ outN H n, 0 ≤ x ∧ x < 256
  | 0, x, h => by cases h
  | n + 1, x, h => by
    rcases List.mem_append.1 h with h | h
    · exact outN_byte H n x h
    · simp [out4] at h
      omega
def pad32 (l : List Int) : List Int := l ++ List.replicate (32 - l.length) 0
theorem pad32_len (l : List Int) (h : l.length ≤ 32) : (pad32 l).length = 32 := by simp [pad32]; omega
theorem pad32_set (l : List Int) (x : Int) (n : Nat) (hn : n = l.length) (h : l.length < 32) : (pad32 l).set n x = pad32 (l ++ [x]) := by
  subst hn
  unfold pad32
  rw [List.set_append_right _ _ (Nat.le_refl _), Nat.sub_self, show 32 - l.length = (32 - (l ++ [x]).length) + 1 by simp; omega, List.replicate_succ, List.set_cons_zero]
  simp
theorem pad32_out (F : List Int) (n : Nat) (h : n < 8) (x : Int) (hx : x = rd F n) (p0 p1 p2 p3 : Nat) (h0 : p0 = 4 * n) (h1 : p1 = 4 * n + 1) (h2 : p2 = 4 * n + 2) (h3 : p3 = 4 * n + 3) :
    ((((pad32 (outN F n)).set p0 (x / 16777216 % 256)).set p1 (x / 65536 % 256)).set p2 (x / 256 % 256)).set p3 (x % 256) = pad32 (outN F (n + 1)) := by
  have hl := outN_len F n
  rw [pad32_set _ _ p0 (by omega) (by omega), pad32_set _ _ p1 (by simp; omega) (by simp; omega), pad32_set _ _ p2 (by simp; omega) (by simp; omega), pad32_set _ _ p3 (by simp; omega) (by simp; omega)]
  show _ = pad32 (outN F n ++ out4 (rd F n))
  rw [hx]
  simp [out4]
theorem u8s_set (l : List Int) (i : Nat) (x : Int) : ((l.map (Value.int .u8)).toArray).setIfInBounds i (.int .u8 x) = ((l.set i x).map (Value.int .u8)).toArray := by
  simp [List.map_set]
theorem u8_cell {w : World} {g : Nat} {t : TypeId} {l : List Int} (h : w.heap[g]? = some (.cells ((l.map (Value.int .u8)).toArray) t (0, 0))) (i : Nat) (hi : i < l.length) : (w.cell? ⟨g, i, none⟩).isSome = true := by
  rw [blk_cell h]; simp [hi]
theorem arm_put8 {ops : Array Oper} {rest : List Oper} {a : Act} {W w0 : World} {Q : Exit → Act → World → Prop} {t0 t : TypeId} {x y : Operand} {ps : String} {af : Array Edge} {g p B : Nat} {L : List Int} {v : Int}
    (hx : a.eval x = .pointer (some ⟨g, p, none⟩)) (hy : a.eval y = .int .u8 v) (hh : W.heap[g]? = some (.cells ((L.map (Value.int .u8)).toArray) t (0, 0))) (hp : p < L.length) (HB : Below B w0 W) (hB : B ≤ g)
    (h : ∀ W', W'.heap[g]? = some (.cells (((L.set p v).map (Value.int .u8)).toArray) t (0, 0)) → Below B w0 W' → wpList Try.prog ops Q rest (a.put none undef) W') :
    wpList Try.prog ops Q ({ dst := none, op := .store 5 x y, type := t0, pos := ps, after := af, guard := none } :: rest) a W :=
  wpList_plain (o := { dst := none, op := .store 5 x y, type := t0, pos := ps, after := af, guard := none }) rfl fun K hK => by
    obtain ⟨o, ho⟩ := Option.isSome_iff_exists.1 (u8_cell hh p hp)
    have hf : W.frozen? ⟨g, p, none⟩ = false := blk_frozen hh p
    have h5 := Try.underlying5
    unfold Oper.wp execOp
    simp only [hx, hy, Sem.run_bind, Sem.run_pure, Result.andThen_ok]
    go_simp
    refine hK _ _ (h _ ?_ (HB.setCell (p := ⟨g, p, none⟩) hB _))
    rw [heap_setCell_same W g _ _ t _ hh, u8s_set]
/-- The sum of bytes. -/
def sumF (l : List Int) : List Int := outN (foldN kc ((l.length + (zN l.length + 9)) / 64) iv (l ++ padL l.length)) 8
theorem sumF_len (l : List Int) : (sumF l).length = 32 := outN_len _ 8
theorem sumF_byte (l : List Int) : ∀ x ∈ sumF l, 0 ≤ x ∧ x < 256 := outN_byte _ 8
/-- In two parts: the whole blocks, and the rest with what stands behind it. -/
theorem sumF_split (l : List Int) (i : Nat) (h : 64 * i ≤ l.length) (hr : l.length - 64 * i < 64) :
    sumF l = outN (foldN kc (((l.drop (64 * i)).length + (zN l.length + 9)) / 64) (foldN kc i iv l) (l.drop (64 * i) ++ padL l.length)) 8 := by
  unfold sumF
  rw [List.length_drop, show (l.length + (zN l.length + 9)) / 64 = i + (l.length - 64 * i + (zN l.length + 9)) / 64 by omega, foldN_add, foldN_append kc _ i iv l h, List.drop_append_of_le_length h]
end Go.Proofs.Ytcpcellocnojcaa

import Derived.Test.YtighpoelpedneaaOrder
import Derived.Test.YtighpoelpedneaaArgsU
import Derived.Deep.MidRow
namespace Go.Proofs.Ytighpoelpedneaa
open Go Go.RowKit Go.Proofs.YtighpoelpedneaaW.PrintWords
set_option linter.unusedVariables false
set_option linter.unusedSimpArgs false

/-- A made row, opened: how it reads. -/
def Got (w : World) (l : List Int) (e : Ending) (w' : World) : Prop :=
  ∃ (A : Option Addr) (c : Nat), e = .returned (.slice A l.length c) ∧ (Kd.int .u8).C w' A l.length l ∧ Below w.heap.size w w'
theorem Made.got {w : World} {l : List Int} {e : Ending} {w' : World} (h : Made w l e w') : Got w l e w' := by
  obtain ⟨v, he, ho, hb⟩ := h
  obtain ⟨A, c, rfl, _, hC⟩ := Kd.R_reads ho
  exact ⟨A, c, he, hC, hb⟩
theorem made_of {f : FuncId} {args : Array Value} {w : World} {l l' : List Int} (h : Calls Try.prog f args w (Made w l)) (e : l = l') : Calls Try.prog f args w (Made w l') := by
  subst e
  exact h
theorem got_of {f : FuncId} {args : Array Value} {w : World} {l l' : List Int} (h : Calls Try.prog f args w (Made w l)) (e : l = l') : Calls Try.prog f args w (Got w l') := by
  subst e
  exact h.mono fun _ _ h => h.got
/-- the same, as a step of a drawn region wants it -/
def GotV (w : World) (l : List Int) (u : Value) (w' : World) : Prop := ∃ (A : Option Addr) (c : Nat), u = .slice A l.length c ∧ (Kd.int .u8).C w' A l.length l ∧ Below w.heap.size w w'
theorem gotv {f : FuncId} {args : Array Value} {w : World} {l : List Int} (h : Calls Try.prog f args w (Got w l)) : Calls Try.prog f args w fun e w' => ∃ u, e = .returned u ∧ GotV w l u w' :=
  h.mono fun _ _ ⟨A, c, he, hc, hb⟩ => ⟨_, he, A, c, rfl, hc, hb⟩
theorem boolv {f : FuncId} {args : Array Value} {w : World} {b : Bool} (h : Calls Try.prog f args w fun e w' => e = .returned (.bool b) ∧ Drawn0 w w') : Calls Try.prog f args w fun e w' => ∃ u, e = .returned u ∧ (u = .bool b ∧ Drawn0 w w') :=
  h.mono fun _ _ ⟨he, hd⟩ => ⟨_, he, rfl, hd⟩
theorem range_below {w w1 : World} {g : Nat} {cs : List Value} (hb : Below w.heap.size w w1) (h : w.rangeAt g 0 cs) : w1.rangeAt g 0 cs := fun j v hv => pw_cell_below hb (h j v hv)
theorem range_new (w : World) (cs : Array Value) (t : TypeId) : (w.alloc (.cells cs t)).rangeAt w.heap.size 0 cs.toList := fun j v hv => by
  rw [cell_of_row _ _ _ cs t (0, 0) (heap_alloc_new w _), Nat.zero_add, ← Array.getElem?_toList]
  exact hv

theorem R_C {w : World} {base : Nat} {A : Option Addr} {n c : Nat} {l : List Int} (h : (Kd.int .u8).R 5 w base (fun _ => True) (.slice A n c) l) : (Kd.int .u8).C w A n l := by
  obtain ⟨A', c', he, _, hC⟩ := Kd.R_reads h
  injection he with e1 e2 e3
  subst e1 e2 e3
  exact hC
theorem size32 : (Try.prog.info? 32).map (·.size) = some 32 := by kernel_rfl
set_option maxHeartbeats 2000000 in
/-- the first half of EncWrites: till the array is read -/
theorem EncWrites_core (A0 : Option Addr) (c0 : Nat) (l0 : List Int) (n : Int) (s : ByteArray) (bl : List Value) (b : List Int) (u : Int) (w : World)
    (hr0 : Kd.C (Kd.int .u8) w A0 l0.length l0) (ha : Arr 32 bl.toArray b) (hu : 0 ≤ u ∧ u < 4294967296) (hs0 : l0.length ≤ 1048576) (hs1 : s.size ≤ 1048576) :
    Calls Try.prog 6 #[.slice A0 l0.length c0, .int .i64 n, .string s, .agg bl.toArray, .int .u32 u] w fun e w' => e = .returned (.bool true) ∧ Below w.heap.size w w' := by
  obtain ⟨N, hN⟩ : ∃ N, encNum n = N := ⟨_, rfl⟩
  obtain ⟨T, hT⟩ : ∃ T, encNum s.size ++ bytesOf s = T := ⟨_, rfl⟩
  obtain ⟨F, hF⟩ : ∃ F, four u = F := ⟨_, rfl⟩
  obtain ⟨X1, hX1⟩ : ∃ X, l0 ++ N = X := ⟨_, rfl⟩
  obtain ⟨X2, hX2⟩ : ∃ X, l0 ++ T = X := ⟨_, rfl⟩
  obtain ⟨X3, hX3⟩ : ∃ X, l0 ++ b = X := ⟨_, rfl⟩
  obtain ⟨X4, hX4⟩ : ∃ X, l0 ++ F = X := ⟨_, rfl⟩
  have hNl : N.length ≤ 9 := by rw [← hN]; exact (numL_len 8 (clamp n)).2
  have hTl : T.length ≤ 1048576 + 9 := by rw [← hT, List.length_append, bytesOf_length]; have := (numL_len 8 (clamp (s.size : Int))).2; unfold encNum; omega
  have hFl : F.length = 4 := by rw [← hF]; rfl
  have hbl : b.length = 32 := ha.len
  have hX1l : 0 < X1.length := by
    have := (numL_len 8 (clamp n)).1
    have h2 : N.length = (numL 8 (clamp n)).length := by rw [← hN]; rfl
    rw [← hX1, List.length_append]; omega
  have k15 := Aside0.mk (fun W (h : (Kd.int .u8).C W A0 l0.length l0) => made_of (encNum_any A0 c0 l0 n W h (by omega)) (by rw [hN, hX1]))
  have k18 := Aside0.mk (fun W => got_of (refNum_any n W) hN)
  have k17a := Aside0.mk (fun W A c (h : (Kd.int .u8).C W A0 l0.length l0) (h' : (Kd.int .u8).C W A N.length N) => got_of (join_any A0 c0 l0 A c N W h h' (by omega)) hX1)
  have k19 := Aside0.mk (fun W (h : (Kd.int .u8).C W A0 l0.length l0) => got_of (encText_any A0 c0 l0 s W h (by omega)) (by rw [List.append_assoc, hT, hX2]))
  have k20 := Aside0.mk (fun W => got_of (refText_any s W (by omega)) hT)
  have k17b := Aside0.mk (fun W A c (h : (Kd.int .u8).C W A0 l0.length l0) (h' : (Kd.int .u8).C W A T.length T) => got_of (join_any A0 c0 l0 A c T W h h' (by omega)) hX2)
  have k21 := Aside0.mk (fun W (h : (Kd.int .u8).C W A0 l0.length l0) => got_of (encId_any A0 c0 l0 bl.toArray b W h (by omega) ha) hX3)
  have k22 := Aside0.mk (fun W => got_of (refId_any bl.toArray b W ha) rfl)
  have k17c := Aside0.mk (fun W A c (h : (Kd.int .u8).C W A0 l0.length l0) (h' : (Kd.int .u8).C W A b.length b) => got_of (join_any A0 c0 l0 A c b W h h' (by omega)) hX3)
  have k16 := Aside0.mk (fun W (h : (Kd.int .u8).C W A0 l0.length l0) => got_of (encFour_any A0 c0 l0 u W h (by omega) hu) (by rw [hF, hX4]))
  have k23 := Aside0.mk (fun W => got_of (refFour_any u W hu) hF)
  have k17d := Aside0.mk (fun W A c (h : (Kd.int .u8).C W A0 l0.length l0) (h' : (Kd.int .u8).C W A F.length F) => got_of (join_any A0 c0 l0 A c F W h h' (by omega)) hX4)
  have k13 := Aside0.mk (fun W A c A' c' (l : List Int) (h : (Kd.int .u8).C W A l.length l) (h' : (Kd.int .u8).C W A' l.length l) => sameBytes_any A c l A' c' l W h h')
  have hu32 := Try.underlying32
  have hi32 : (Try.prog.info? 32).map (·.size) = some bl.length := by
    have e : bl.length = 32 := by have := ha.size; simpa using this
    rw [e]; exact size32
  have H32 := Aside0.mk hi32
  clear hN hT hF hX1 hX2 hX3 hX4 hNl hTl hFl hbl ha hu hi32 hs0 hs1
  have HC0 := Aside0.mk hr0
  clear hr0
  go_enter Try.func6, Try.ntmps6
  have HW := Aside0.mk (below_alloc (Below.refl w.heap.size w) (.cells bl.toArray 32))
  have HRG := Aside0.mk (show (w.alloc (.cells bl.toArray 32)).rangeAt w.heap.size 0 bl from range_new w bl.toArray 32)
  have HC0 := Aside0.mk (Kd.C_below HC0.out HW.out)
  have HB := Aside0.mk (Below.refl (w.alloc (.cells bl.toArray 32)).heap.size (w.alloc (.cells bl.toArray 32)))
  go_wp2_with fail
  refine (writing_any _).mono ?_
  rintro e w1 ⟨rfl, hb⟩
  have HB := Aside0.mk (below_step HB.out hb)
  clear hb
  go_wp2_with fail
  refine (got_of (encFour_any none 0 [] 1 w1 (C_nil w1) (by decide) (by decide)) rfl).mono ?_
  rintro e w2 ⟨A2, c2, rfl, hc, hb⟩
  have HB := Aside0.mk (below_step HB.out hb)
  clear hb hc
  have hst := fun W A c => (Kd.C_string (P := Try.prog) (w := W) (src := 22) (dst := 9) (e := 5) (c := c) (A := A) Try.underlying22 Try.underlying5 Try.underlying9 (n := l0.length) (xs := l0))
  have hst2 := hst w2 A0 c0 (Kd.C_below HC0.out HB.out)
  clear hst
  go_wp2_with fail
  clear hst2
  refine (k15.out _ (Kd.C_below HC0.out HB.out)).mono ?_
  rintro e w3 ⟨v3, rfl, ho, hb⟩
  obtain ⟨g3, cap3, rfl, hg3, hg3l⟩ := R_form ho (by decide) hX1l
  have HO3 := Aside0.mk ho
  have HC3 := Aside0.mk (R_C ho)
  have HG3 := Aside0.mk (Nat.le_trans HB.out.size hg3)
  have HB3 := Aside0.mk (Below.refl w3.heap.size w3)
  have HB := Aside0.mk (below_step HB.out hb)
  clear hb ho hg3 hg3l
  go_wp2_with fail
  refine (k18.out w3).mono ?_
  rintro e w4 ⟨A4, c4, rfl, hc, hb⟩
  have HC4 := Aside0.mk hc
  have HB := Aside0.mk (below_step HB.out hb)
  have HB3 := Aside0.mk (below_step HB3.out hb)
  clear hb hc
  go_wp2_with fail
  refine (k17a.out w4 A4 c4 (Kd.C_below HC0.out HB.out) HC4.out).mono ?_
  rintro e w5 ⟨A5, c5, rfl, hc, hb⟩
  have HC5 := Aside0.mk hc
  have HB := Aside0.mk (below_step HB.out hb)
  have HB3 := Aside0.mk (below_step HB3.out hb)
  clear hb hc HC4
  go_wp2_with fail
  refine (k13.out w5 _ _ A5 c5 X1 (Kd.C_below HC3.out HB3.out) HC5.out).mono ?_
  rintro e w6 ⟨rfl, hd⟩
  simp only [decide_true]
  have HB := Aside0.mk (below_step HB.out hd.below)
  have HB3 := Aside0.mk (below_step HB3.out hd.below)
  clear hd HC5
  go_wp2_with fail
  refine (k19.out w6 (Kd.C_below HC0.out HB.out)).mono ?_
  rintro e w7 ⟨A7, c7, rfl, hc, hb⟩
  have HC7 := Aside0.mk hc
  have HB := Aside0.mk (below_step HB.out hb)
  have HB3 := Aside0.mk (below_step HB3.out hb)
  clear hb hc
  go_wp2_with fail
  refine (k20.out w7).mono ?_
  rintro e w8 ⟨A8, c8, rfl, hc, hb⟩
  have HC8 := Aside0.mk hc
  have HC7 := Aside0.mk (Kd.C_below HC7.out hb)
  have HB := Aside0.mk (below_step HB.out hb)
  have HB3 := Aside0.mk (below_step HB3.out hb)
  clear hb hc
  go_wp2_with fail
  refine (k17b.out w8 A8 c8 (Kd.C_below HC0.out HB.out) HC8.out).mono ?_
  rintro e w9 ⟨A9, c9, rfl, hc, hb⟩
  have HC9 := Aside0.mk hc
  have HC7 := Aside0.mk (Kd.C_below HC7.out hb)
  have HB := Aside0.mk (below_step HB.out hb)
  have HB3 := Aside0.mk (below_step HB3.out hb)
  clear hb hc HC8
  go_wp2_with fail
  refine (k13.out w9 _ _ A9 c9 X2 HC7.out HC9.out).mono ?_
  rintro e w10 ⟨rfl, hd⟩
  simp only [decide_true]
  have HB := Aside0.mk (below_step HB.out hd.below)
  have HB3 := Aside0.mk (below_step HB3.out hd.below)
  clear hd HC7 HC9
  go_wp2_with fail
  have HB := Aside0.mk (below_drew1 HB.out)
  have HB3 := Aside0.mk (below_drew1 HB3.out)
  refine wp_region_noPanic ?_
  refine wp_region_held_drew (S := (fun w' => w'.rangeAt w.heap.size 0 bl)) (by kernel_rfl) ?_ (fun hHeld => ?_)
  · exact range_below HB.out HRG.out
  refine wpAnyH_take (i := 0) (oi := { dst := some 44, op := Go.Op.move (Go.Operand.tmp 0), type := 22, pos := "law.go:35", after := #[], guard := none }) (v := ?_) rfl (by kernel_rfl) (by kernel_rfl) (by kernel_rfl) (fun _ _ _ h => h) (Or.inl ⟨by rfl, ?_⟩) hHeld ?_
  rotate_left
  · intro w hSw; go_simp; with_reducible rfl
  try simp only [Act.put, List.setIfInBounds_toArray, List.set_cons_zero, List.set_cons_succ]
  refine wpAnyH_take (i := 1) (oi := { dst := some 45, op := Go.Op.load 32 (Go.Operand.tmp 8), type := 32, pos := "law.go:35", after := #[], guard := none }) (v := _) rfl (by kernel_rfl) (by kernel_rfl) (by kernel_rfl) (fun _ _ _ h => h) (yieldsIf_load_mid (by rfl) 32 (.tmp 8) rfl w.heap.size 0 rfl bl _ (fun _ h => h) hu32 rfl H32.out) hHeld ?_
  try simp only [Act.put, List.setIfInBounds_toArray, List.set_cons_zero, List.set_cons_succ]
  refine wpAnyH_take (i := 3) (oi := { dst := some 47, op := Go.Op.move (Go.Operand.tmp 0), type := 22, pos := "law.go:35", after := #[], guard := none }) (v := ?_) rfl (by kernel_rfl) (by kernel_rfl) (by kernel_rfl) (fun _ _ _ h => h) (Or.inl ⟨by rfl, ?_⟩) hHeld ?_
  rotate_left
  · intro w hSw; go_simp; with_reducible rfl
  try simp only [Act.put, List.setIfInBounds_toArray, List.set_cons_zero, List.set_cons_succ]
  refine wpAnyH_take (i := 4) (oi := { dst := some 48, op := Go.Op.load 32 (Go.Operand.tmp 8), type := 32, pos := "law.go:35", after := #[], guard := none }) (v := _) rfl (by kernel_rfl) (by kernel_rfl) (by kernel_rfl) (fun _ _ _ h => h) (yieldsIf_load_mid (by rfl) 32 (.tmp 8) rfl w.heap.size 0 rfl bl _ (fun _ h => h) hu32 rfl H32.out) hHeld ?_
  try simp only [Act.put, List.setIfInBounds_toArray, List.set_cons_zero, List.set_cons_succ]
  refine wpAnyH_ready (rs := [2]) (by kernel_rfl) (by simp) ?_
  refine AllReadyH.cons (o := { dst := some 46, op := Go.Op.call { callee := Go.Callee.value (Go.Operand.func 21), args := #[Go.Operand.tmp 44, Go.Operand.tmp 45], argTypes := #[22, 32] }, type := 22, pos := "law.go:35", after := #[{ on := 0, ground := Go.Ground.data }, { on := 1, ground := Go.Ground.data }], guard := none }) rfl (fun K hK => ?_) AllReadyH.nil
  refine step_call2 (f := 21) (x := .tmp 44) (y := .tmp 45) (v := .slice A0 l0.length c0) (u := .agg bl.toArray) (by rfl) rfl rfl rfl enter21 (gotv (k21.out _ (Kd.C_below HC0.out HB.out))) ?_
  rintro u11 w11 ⟨A11, c11, rfl, hc, hb⟩
  have HC11 := Aside0.mk hc
  have HB := Aside0.mk (below_step HB.out hb)
  have HB3 := Aside0.mk (below_step HB3.out hb)
  clear hb hc
  refine hK.out _ _ (range_below HB.out HRG.out) (fun hHeld => ?_)
  clear hK K
  try simp only [Act.put, List.setIfInBounds_toArray, List.set_cons_zero, List.set_cons_succ]
  refine wpAnyH_ready (rs := [5]) (by kernel_rfl) (by simp) ?_
  refine AllReadyH.cons (o := { dst := some 49, op := Go.Op.call { callee := Go.Callee.value (Go.Operand.func 22), args := #[Go.Operand.tmp 48], argTypes := #[31] }, type := 22, pos := "law.go:35", after := #[{ on := 4, ground := Go.Ground.data }, { on := 2, ground := Go.Ground.chain }], guard := none }) rfl (fun K hK => ?_) AllReadyH.nil
  refine step_call1 (f := 22) (x := .tmp 48) (v := .agg bl.toArray) (by rfl) rfl rfl enter22 (gotv (k22.out _)) ?_
  rintro u12 w12 ⟨A12, c12, rfl, hc, hb⟩
  have HC12 := Aside0.mk hc
  have HC11 := Aside0.mk (Kd.C_below HC11.out hb)
  have HB := Aside0.mk (below_step HB.out hb)
  have HB3 := Aside0.mk (below_step HB3.out hb)
  clear hb hc
  refine hK.out _ _ (range_below HB.out HRG.out) (fun hHeld => ?_)
  clear hK K
  try simp only [Act.put, List.setIfInBounds_toArray, List.set_cons_zero, List.set_cons_succ]
  refine wpAnyH_ready (rs := [6]) (by kernel_rfl) (by simp) ?_
  refine AllReadyH.cons (o := { dst := some 50, op := Go.Op.call { callee := Go.Callee.value (Go.Operand.func 17), args := #[Go.Operand.tmp 47, Go.Operand.tmp 49], argTypes := #[22, 22] }, type := 22, pos := "law.go:35", after := #[{ on := 3, ground := Go.Ground.data }, { on := 5, ground := Go.Ground.data }, { on := 5, ground := Go.Ground.chain }], guard := none }) rfl (fun K hK => ?_) AllReadyH.nil
  refine step_call2 (f := 17) (x := .tmp 47) (y := .tmp 49) (v := .slice A0 l0.length c0) (u := .slice A12 b.length c12) (by rfl) rfl rfl rfl enter17 (gotv (k17c.out _ A12 c12 (Kd.C_below HC0.out HB.out) HC12.out)) ?_
  rintro u13 w13 ⟨A13, c13, rfl, hc, hb⟩
  have HC13 := Aside0.mk hc
  have HC11 := Aside0.mk (Kd.C_below HC11.out hb)
  have HB := Aside0.mk (below_step HB.out hb)
  have HB3 := Aside0.mk (below_step HB3.out hb)
  clear hb hc
  clear HC12
  refine hK.out _ _ (range_below HB.out HRG.out) (fun hHeld => ?_)
  clear hK K
  try simp only [Act.put, List.setIfInBounds_toArray, List.set_cons_zero, List.set_cons_succ]
  refine wpAnyH_ready (rs := [7]) (by kernel_rfl) (by simp) ?_
  refine AllReadyH.cons (o := { dst := some 51, op := Go.Op.call { callee := Go.Callee.value (Go.Operand.func 13), args := #[Go.Operand.tmp 46, Go.Operand.tmp 50], argTypes := #[22, 22] }, type := 4, pos := "law.go:35", after := #[{ on := 2, ground := Go.Ground.data }, { on := 6, ground := Go.Ground.data }, { on := 6, ground := Go.Ground.chain }], guard := none }) rfl (fun K hK => ?_) AllReadyH.nil
  refine step_call2 (f := 13) (x := .tmp 46) (y := .tmp 50) (v := .slice A11 X3.length c11) (u := .slice A13 X3.length c13) (by rfl) rfl rfl rfl enter13 (boolv (k13.out _ A11 c11 A13 c13 X3 HC11.out HC13.out)) ?_
  rintro u14 w14 ⟨rfl, hd⟩
  simp only [decide_true]
  have HB := Aside0.mk (below_step HB.out hd.below)
  have HB3 := Aside0.mk (below_step HB3.out hd.below)
  clear hd HC11 HC13
  refine hK.out _ _ (range_below HB.out HRG.out) (fun hHeld => ?_)
  clear hK K
  try simp only [Act.put, List.setIfInBounds_toArray, List.set_cons_zero, List.set_cons_succ]
  refine wpAnyH_take (i := 8) (oi := { dst := some 52, op := Go.Op.unOp Go.UnOp.not 4 (Go.Operand.tmp 51), type := 4, pos := "law.go:35", after := #[{ on := 7, ground := Go.Ground.data }], guard := none }) (v := ?_) rfl (by kernel_rfl) (by kernel_rfl) (by kernel_rfl) (fun _ _ _ h => h) (Or.inl ⟨by rfl, ?_⟩) hHeld ?_
  rotate_left
  · intro w hSw; go_simp; with_reducible rfl
  try simp only [Act.put, List.setIfInBounds_toArray, List.set_cons_zero, List.set_cons_succ]
  refine wpAnyH_take (i := 9) (oi := { dst := some 53, op := Go.Op.move (Go.Operand.tmp 52), type := 4, pos := "law.go:35", after := #[{ on := 8, ground := Go.Ground.data }, { on := 7, ground := Go.Ground.chain }], guard := none }) (v := ?_) rfl (by kernel_rfl) (by kernel_rfl) (by kernel_rfl) (fun _ _ _ h => h) (Or.inl ⟨by rfl, ?_⟩) hHeld ?_
  rotate_left
  · intro w hSw; go_simp; with_reducible rfl
  try simp only [Act.put, List.setIfInBounds_toArray, List.set_cons_zero, List.set_cons_succ]
  refine wpAnyH_take (i := 10) (oi := { dst := some 54, op := Go.Op.move (Go.Operand.tmp 0), type := 22, pos := "law.go:35", after := #[{ on := 9, ground := Go.Ground.guard }], guard := some (9, false) }) (v := ?_) rfl (by kernel_rfl) (by kernel_rfl) (by kernel_rfl) (fun _ _ _ h => h) (Or.inl ⟨by rfl, ?_⟩) hHeld ?_
  rotate_left
  · intro w hSw; go_simp; with_reducible rfl
  try simp only [Act.put, List.setIfInBounds_toArray, List.set_cons_zero, List.set_cons_succ]
  refine wpAnyH_take (i := 11) (oi := { dst := some 55, op := Go.Op.move (Go.Operand.tmp 4), type := 24, pos := "law.go:35", after := #[{ on := 9, ground := Go.Ground.guard }], guard := some (9, false) }) (v := ?_) rfl (by kernel_rfl) (by kernel_rfl) (by kernel_rfl) (fun _ _ _ h => h) (Or.inl ⟨by rfl, ?_⟩) hHeld ?_
  rotate_left
  · intro w hSw; go_simp; with_reducible rfl
  try simp only [Act.put, List.setIfInBounds_toArray, List.set_cons_zero, List.set_cons_succ]
  refine wpAnyH_take (i := 13) (oi := { dst := some 57, op := Go.Op.move (Go.Operand.tmp 0), type := 22, pos := "law.go:35", after := #[{ on := 9, ground := Go.Ground.guard }], guard := some (9, false) }) (v := ?_) rfl (by kernel_rfl) (by kernel_rfl) (by kernel_rfl) (fun _ _ _ h => h) (Or.inl ⟨by rfl, ?_⟩) hHeld ?_
  rotate_left
  · intro w hSw; go_simp; with_reducible rfl
  try simp only [Act.put, List.setIfInBounds_toArray, List.set_cons_zero, List.set_cons_succ]
  refine wpAnyH_take (i := 14) (oi := { dst := some 58, op := Go.Op.move (Go.Operand.tmp 4), type := 24, pos := "law.go:35", after := #[{ on := 9, ground := Go.Ground.guard }], guard := some (9, false) }) (v := ?_) rfl (by kernel_rfl) (by kernel_rfl) (by kernel_rfl) (fun _ _ _ h => h) (Or.inl ⟨by rfl, ?_⟩) hHeld ?_
  rotate_left
  · intro w hSw; go_simp; with_reducible rfl
  try simp only [Act.put, List.setIfInBounds_toArray, List.set_cons_zero, List.set_cons_succ]
  refine wpAnyH_ready (rs := [12]) (by kernel_rfl) (by simp) ?_
  refine AllReadyH.cons (o := { dst := some 56, op := Go.Op.call { callee := Go.Callee.value (Go.Operand.func 16), args := #[Go.Operand.tmp 54, Go.Operand.tmp 55], argTypes := #[22, 24] }, type := 22, pos := "law.go:35", after := #[{ on := 10, ground := Go.Ground.data }, { on := 11, ground := Go.Ground.data }, { on := 9, ground := Go.Ground.chain }, { on := 9, ground := Go.Ground.guard }], guard := some (9, false) }) rfl (fun K hK => ?_) AllReadyH.nil
  refine step_call2 (f := 16) (x := .tmp 54) (y := .tmp 55) (v := .slice A0 l0.length c0) (u := .int .u32 u) (by rfl) rfl rfl rfl enter16 (gotv (k16.out _ (Kd.C_below HC0.out HB.out))) ?_
  rintro u15 w15 ⟨A15, c15, rfl, hc, hb⟩
  have HC15 := Aside0.mk hc
  have HB := Aside0.mk (below_step HB.out hb)
  have HB3 := Aside0.mk (below_step HB3.out hb)
  clear hb hc
  refine hK.out _ _ (range_below HB.out HRG.out) (fun hHeld => ?_)
  clear hK K
  try simp only [Act.put, List.setIfInBounds_toArray, List.set_cons_zero, List.set_cons_succ]
  refine wpAnyH_ready (rs := [15]) (by kernel_rfl) (by simp) ?_
  refine AllReadyH.cons (o := { dst := some 59, op := Go.Op.call { callee := Go.Callee.value (Go.Operand.func 23), args := #[Go.Operand.tmp 58], argTypes := #[24] }, type := 22, pos := "law.go:35", after := #[{ on := 14, ground := Go.Ground.data }, { on := 12, ground := Go.Ground.chain }, { on := 9, ground := Go.Ground.guard }], guard := some (9, false) }) rfl (fun K hK => ?_) AllReadyH.nil
  refine step_call1 (f := 23) (x := .tmp 58) (v := .int .u32 u) (by rfl) rfl rfl enter23 (gotv (k23.out _)) ?_
  rintro u16 w16 ⟨A16, c16, rfl, hc, hb⟩
  have HC16 := Aside0.mk hc
  have HC15 := Aside0.mk (Kd.C_below HC15.out hb)
  have HB := Aside0.mk (below_step HB.out hb)
  have HB3 := Aside0.mk (below_step HB3.out hb)
  clear hb hc
  refine hK.out _ _ (range_below HB.out HRG.out) (fun hHeld => ?_)
  clear hK K
  try simp only [Act.put, List.setIfInBounds_toArray, List.set_cons_zero, List.set_cons_succ]
  refine wpAnyH_ready (rs := [16]) (by kernel_rfl) (by simp) ?_
  refine AllReadyH.cons (o := { dst := some 60, op := Go.Op.call { callee := Go.Callee.value (Go.Operand.func 17), args := #[Go.Operand.tmp 57, Go.Operand.tmp 59], argTypes := #[22, 22] }, type := 22, pos := "law.go:35", after := #[{ on := 13, ground := Go.Ground.data }, { on := 15, ground := Go.Ground.data }, { on := 15, ground := Go.Ground.chain }, { on := 9, ground := Go.Ground.guard }], guard := some (9, false) }) rfl (fun K hK => ?_) AllReadyH.nil
  refine step_call2 (f := 17) (x := .tmp 57) (y := .tmp 59) (v := .slice A0 l0.length c0) (u := .slice A16 F.length c16) (by rfl) rfl rfl rfl enter17 (gotv (k17d.out _ A16 c16 (Kd.C_below HC0.out HB.out) HC16.out)) ?_
  rintro u17 w17 ⟨A17, c17, rfl, hc, hb⟩
  have HC17 := Aside0.mk hc
  have HC15 := Aside0.mk (Kd.C_below HC15.out hb)
  have HB := Aside0.mk (below_step HB.out hb)
  have HB3 := Aside0.mk (below_step HB3.out hb)
  clear hb hc
  clear HC16
  refine hK.out _ _ (range_below HB.out HRG.out) (fun hHeld => ?_)
  clear hK K
  try simp only [Act.put, List.setIfInBounds_toArray, List.set_cons_zero, List.set_cons_succ]
  refine wpAnyH_ready (rs := [17]) (by kernel_rfl) (by simp) ?_
  refine AllReadyH.cons (o := { dst := some 61, op := Go.Op.call { callee := Go.Callee.value (Go.Operand.func 13), args := #[Go.Operand.tmp 56, Go.Operand.tmp 60], argTypes := #[22, 22] }, type := 4, pos := "law.go:35", after := #[{ on := 12, ground := Go.Ground.data }, { on := 16, ground := Go.Ground.data }, { on := 16, ground := Go.Ground.chain }, { on := 9, ground := Go.Ground.guard }], guard := some (9, false) }) rfl (fun K hK => ?_) AllReadyH.nil
  refine step_call2 (f := 13) (x := .tmp 56) (y := .tmp 60) (v := .slice A15 X4.length c15) (u := .slice A17 X4.length c17) (by rfl) rfl rfl rfl enter13 (boolv (k13.out _ A15 c15 A17 c17 X4 HC15.out HC17.out)) ?_
  rintro u18 w18 ⟨rfl, hd⟩
  simp only [decide_true]
  have HB := Aside0.mk (below_step HB.out hd.below)
  have HB3 := Aside0.mk (below_step HB3.out hd.below)
  clear hd HC15 HC17
  refine hK.out _ _ (range_below HB.out HRG.out) (fun hHeld => ?_)
  clear hK K
  try simp only [Act.put, List.setIfInBounds_toArray, List.set_cons_zero, List.set_cons_succ]
  refine wpAnyH_take (i := 18) (oi := { dst := some 62, op := Go.Op.unOp Go.UnOp.not 4 (Go.Operand.tmp 61), type := 4, pos := "law.go:35", after := #[{ on := 17, ground := Go.Ground.data }, { on := 9, ground := Go.Ground.guard }], guard := some (9, false) }) (v := ?_) rfl (by kernel_rfl) (by kernel_rfl) (by kernel_rfl) (fun _ _ _ h => h) (Or.inl ⟨by rfl, ?_⟩) hHeld ?_
  rotate_left
  · intro w hSw; go_simp; with_reducible rfl
  try simp only [Act.put, List.setIfInBounds_toArray, List.set_cons_zero, List.set_cons_succ]
  refine wpAnyH_take (i := 19) (oi := { dst := some 63, op := Go.Op.pick (Go.Operand.tmp 53) (Go.Operand.const (Go.Value.bool true)) (Go.Operand.tmp 62), type := 4, pos := "law.go:35", after := #[{ on := 9, ground := Go.Ground.data }, { on := 18, ground := Go.Ground.data }], guard := none }) (v := ?_) rfl (by kernel_rfl) (by kernel_rfl) (by kernel_rfl) (fun _ _ _ h => h) (Or.inl ⟨by rfl, ?_⟩) hHeld ?_
  rotate_left
  · intro w hSw; go_simp; with_reducible rfl
  try simp only [Act.put, List.setIfInBounds_toArray, List.set_cons_zero, List.set_cons_succ]
  refine wpAnyH_done (by kernel_rfl) ?_ _
  refine NoPanic.normal ?_
  go_wp2_with fail
  have HX := Aside0.mk (Kd.R_below HO3.out HB3.out)
  go_loopw [66] (fun i wr => ∃ k : Nat, k ≤ X1.length ∧ i = .int .i64 k ∧ ∃ l : List Int, Aside0 ((Kd.int .u8).R 5 wr w2.heap.size (fun _ => True) (.slice (some ⟨g3, 0, none⟩) X1.length cap3) l) ∧ Aside0 (Below (w.alloc (.cells bl.toArray 32)).heap.size (w.alloc (.cells bl.toArray 32)) wr)) (fun i _ => X1.length - (intOf i).toNat)
  case atStart => exact ⟨0, by omega, rfl, X1, HX, HB⟩
  case round =>
    have hXl := C_len HC3.out
    clear HX HB HB3 HO3 HC3 k15 k18 k17a k19 k20 k17b k21 k22 k17c k16 k23 k17d k13 hHeld HRG H32
    obtain ⟨k, hk, rfl, l, HO, HB⟩ := hrel
    by_cases hlt : k < X1.length
    · obtain ⟨hx, hfz⟩ := Kd.R_celln (0 : Int) HO.out (k : Int) (by omega) (by omega)
      simp only [Int.toNat_natCast] at hx hfz
      go_wp2
      go_roundw
      case rel => exact ⟨k + 1, by omega, by go_num, _, ⟨Kd.R_putn HO.out (k : Int) 99⟩, ⟨below_set HB.out HG3.out⟩⟩
      case measure => simp [intOf]; omega
    · have hst2 := (Kd.C_string (P := Try.prog) (w := wr) (src := 22) (dst := 9) (e := 5) (c := c0) (A := A0) Try.underlying22 Try.underlying5 Try.underlying9 (n := l0.length) (xs := l0) (Kd.C_below HC0.out HB.out))
      go_wp2
      go_ret
      exact ⟨ret_bool (by simp), below_step HW.out HB.out⟩
theorem EncWrites_walk (A0 : Option Addr) (c0 : Nat) (l0 : List Int) (n : Int) (s : ByteArray) (bl : List Value) (b : List Int) (u : Int) (w : World)
    (hr0 : Kd.C (Kd.int .u8) w A0 l0.length l0) (hc0 : l0.length ≤ c0) (hw0 : ∀ x ∈ l0, (Lit.int .u8 x).wf = true) (hs0 : l0.length ≤ 1048576) (hw1 : (Lit.int .i64 n).wf = true) (hs2 : s.size ≤ 1048576)
    (ha : Arr 32 bl.toArray b) (hw3 : ∀ x ∈ b, (Lit.int .u8 x).wf = true) (hw4 : (Lit.int .u32 u).wf = true) :
    Calls Try.prog 6 #[.slice A0 l0.length c0, .int .i64 n, .string s, .agg bl.toArray, .int .u32 u] w fun e w' => e = .returned (.bool true) ∧ Below w.heap.size w w' :=
  EncWrites_core A0 c0 l0 n s bl b u w hr0 ha (wf_u32 hw4) hs0 hs2
end Go.Proofs.Ytighpoelpedneaa

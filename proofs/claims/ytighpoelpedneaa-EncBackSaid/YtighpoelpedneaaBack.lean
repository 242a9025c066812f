/- What is written is read back: the walk of 'EncBack'. No condition. -/
import Derived.Test.YtighpoelpedneaaBackR
import Derived.Test.YtighpoelpedneaaArms
import Derived.Test.YtighpoelpedneaaArgsS
namespace Go.Proofs.Ytighpoelpedneaa
open Go Go.RowKit Go.Proofs.YtighpoelpedneaaW.PrintWords
set_option linter.unusedVariables false
set_option linter.unusedSimpArgs false

theorem numsL_le : ∀ l : List Int, (numsL l).length ≤ 9 * l.length
  | [] => by simp [numsL]
  | n :: ns => by
    have h1 := numsL_le ns
    have h2 := (numL_len 8 (clamp n)).2
    show (encNum n ++ numsL ns).length ≤ _
    rw [List.length_append, List.length_cons]
    unfold encNum
    omega

theorem eqz (W : World) : (Op.equalIn 10000 32 (.agg (List.map (Value.int .u8) zeros32).toArray) (.agg #[Value.int .u8 0, Value.int .u8 0, Value.int .u8 0, Value.int .u8 0, Value.int .u8 0, Value.int .u8 0, Value.int .u8 0, Value.int .u8 0, Value.int .u8 0, Value.int .u8 0, Value.int .u8 0, Value.int .u8 0, Value.int .u8 0, Value.int .u8 0, Value.int .u8 0, Value.int .u8 0, Value.int .u8 0, Value.int .u8 0, Value.int .u8 0, Value.int .u8 0, Value.int .u8 0, Value.int .u8 0, Value.int .u8 0, Value.int .u8 0, Value.int .u8 0, Value.int .u8 0, Value.int .u8 0, Value.int .u8 0, Value.int .u8 0, Value.int .u8 0, Value.int .u8 0, Value.int .u8 0])).run Try.prog W = .ok true W :=
  (eq32 W zeros32 zeros32 rfl rfl).trans (by rw [decide_eq_true rfl])
theorem ret_val_bool {b : Bool} (h : b = true) : Value.bool b = .bool true := by rw [h]
theorem num_step (l : List Int) (k : Nat) (hk : k < l.length) (R : List Int) : numR 4611686018427387904 (numsL (l.drop k) ++ R) false = (clamp (rd l k), numsL (l.drop (k + 1)) ++ R, false) := by
  rw [List.drop_eq_getElem_cons hk]
  show numR _ ((encNum _ ++ numsL _) ++ R) _ = _
  rw [List.append_assoc, numR_enc _ _ _ (clamp_bd _).2]
  simp [rd, hk]
theorem text_step (l : List ByteArray) (k : Nat) (hk : k < l.length) (R : List Int) (hs : ∀ s ∈ l, s.size ≤ 500) : textR 500 (textsL (l.drop k) ++ R) false = (bytesOf (rdOf ByteArray.empty l k), textsL (l.drop (k + 1)) ++ R, false) := by
  have h5 : l[k].size ≤ 500 := hs _ (List.getElem_mem hk)
  rw [List.drop_eq_getElem_cons hk]
  show textR _ ((encNum _ ++ bytesOf _ ++ textsL _) ++ R) _ = _
  rw [List.append_assoc, textR_enc _ _ _ (by omega) h5]
  simp [rdOf, hk]
theorem str_back (s : ByteArray) : strOfNums (bytesOf s) = s := by
  cases s with
  | mk d => simp [strOfNums, bytesOf, Function.comp_def]
theorem app_zeros {ops : Array Oper} {rest : List Oper} {o : Oper} {a : Act} {Q : Exit → Act → World → Prop} {w0 W : World} {base : Nat} (hgd : o.guard = none) (s x : Operand)
    (ho : o.op = .call { callee := .builtin .append, args := #[s, x], argTypes := #[22, 3] })
    (v : Value) (xs : List Int) (j : Nat) (hj : j < 2) (hs : a.eval s = v) (hx : a.eval x = .int .i64 (2 * (j : Int)))
    (HO : (Kd.int .u8).R 5 W base (fun _ => True) v xs) (HB : Below base w0 W) (hbase : base ≤ W.heap.size) (hl : xs.length ≤ 1000000)
    (h : ∀ v1 w1, (Kd.int .u8).R 5 w1 base (fun _ => True) v1 (xs ++ bytesOf (zer j)) → Below base w0 w1 → wpList Try.prog ops Q rest (a.put o.dst v1) w1) :
    wpList Try.prog ops Q (o :: rest) a W := by
  refine wpList_plain hgd fun K hK => ?_
  obtain ⟨v1, w1, hr, h1, hg⟩ := run_app_zeros o.type v xs j hj HO hbase hl
  unfold Oper.wp execOp
  simp only [ho, resolve, invoke, builtin, Sem.run_bind, Sem.run_pure, Result.andThen_ok, List.map_toArray, List.map_cons, List.map_nil, hs, hx, hr]
  exact hK _ _ (h v1 w1 h1 (HB.grown hg hbase (own_base (own_int_of_R HO))))
/-- What stays while the law runs: all that was there before, and the ID's block. -/
structure Lv (w : World) (bl : List Value) (W : World) : Prop where
  below : Below w.heap.size w W
  blk : W.heap[w.heap.size]? = some (.cells bl.toArray 32 (0, 0))
theorem Lv.start (w : World) (bl : List Value) : Lv w bl (w.alloc (.cells bl.toArray 32)) := ⟨below_alloc (Below.refl w.heap.size w) _, heap_alloc_new w _⟩
theorem Lv.step {w W W' : World} {bl : List Value} (h : Lv w bl W) (k : Below W.heap.size W W') : Lv w bl W' :=
  ⟨below_step h.below k, (k.block _ (blk_lt h.blk)).trans h.blk⟩

set_option maxHeartbeats 4000000 in
set_option maxRecDepth 20000 in
theorem EncBack_core (A0 : Option Addr) (c0 : Nat) (l0 : List Int) (A1 : Option Addr) (c1 : Nat) (l1 : List ByteArray) (bl : List Value) (b : List Int) (w : World) (hr0 : Kd.C (Kd.int .i64) w A0 l0.length l0) (hr1 : Kd.C Kd.string w A1 l1.length l1) (ha : bl = b.map (Value.int .u8)) (hbl : b.length = 32) (hbb : Bytes b) :
    Calls Try.prog 9 #[.slice A0 l0.length c0, .slice A1 l1.length c1, .agg bl.toArray] w fun e w' => e = .returned (.bool true) ∧ Below w.heap.size w w' := by
  have HC0 := Aside0.mk hr0
  have HC1 := Aside0.mk hr1
  have HB0 := Aside0.mk (Lv.start w bl)
  have HAB := Aside0.mk ha
  have HBL := Aside0.mk hbl
  have HBB := Aside0.mk hbb
  clear hr0 hr1 ha hbl hbb
  by_cases hbig : 40 < l0.length ∨ 40 < l1.length
  · by_cases h0 : (40 : Int) < (l0.length : Int)
    · go_enter Try.func9, Try.ntmps9
      go_wp2_with (first
        | (go_at_call 14; (with_reducible refine (writing_any _).mono ?_); rintro e w1 ⟨rfl, hb⟩; have HB1 := Aside0.mk (HB0.out.step hb); clear hb)
        | (go_at_call 25; (with_reducible refine (reading_any _).mono ?_); rintro e w2 ⟨rfl, hb⟩; have HB2 := Aside0.mk (HB1.out.step hb); clear hb))
      go_ret
      exact ⟨rfl, HB2.out.below⟩
    · have h1 : (40 : Int) < (l1.length : Int) := by omega
      clear hbig
      go_enter Try.func9, Try.ntmps9
      go_wp2_with (first
        | (go_at_call 14; (with_reducible refine (writing_any _).mono ?_); rintro e w1 ⟨rfl, hb⟩; have HB1 := Aside0.mk (HB0.out.step hb); clear hb)
        | (go_at_call 25; (with_reducible refine (reading_any _).mono ?_); rintro e w2 ⟨rfl, hb⟩; have HB2 := Aside0.mk (HB1.out.step hb); clear hb))
      go_ret
      exact ⟨rfl, HB2.out.below⟩
  · have h0 : ¬ (40 : Int) < (l0.length : Int) := by omega
    have h1 : ¬ (40 : Int) < (l1.length : Int) := by omega
    clear hbig
    go_enter Try.func9, Try.ntmps9
    go_wp2_with (first
      | (go_at_call 14; (with_reducible refine (writing_any _).mono ?_); rintro e w1 ⟨rfl, hb⟩; have HB1 := Aside0.mk (HB0.out.step hb); clear hb)
      | (go_at_call 25; (with_reducible refine (reading_any _).mono ?_); rintro e w2 ⟨rfl, hb⟩; have HB2 := Aside0.mk (HB1.out.step hb); clear hb))
    go_loopw [7, 38] (fun bv v wr => ∃ (k : Nat) (A : Option Addr) (c : Nat), k ≤ l0.length ∧ v = .int .i64 k ∧ bv = .slice A (numsL (l0.take k)).length c ∧ Aside0 ((Kd.int .u8).C wr A (numsL (l0.take k)).length (numsL (l0.take k))) ∧ Aside0 (Lv w bl wr)) (fun bv v wr => (l0.length - intOf v).toNat)
    case atStart => exact ⟨0, none, 0, by omega, rfl, rfl, ⟨Kd.C_of_reads (d := (0 : Int)) (h1 := fun _ => rfl) (ReadsOf.nil _ _ _)⟩, HB2⟩
    case round =>
      clear HB2
      obtain ⟨k, A, c, hk, rfl, rfl, HC, HB⟩ := hrel
      by_cases hlt : k < l0.length
      · obtain ⟨ad, hA, hx⟩ := at_nat (Kd.C_below HC0.out HB.out.below) k hlt
        subst hA
        obtain ⟨x, hxx⟩ : ∃ x, rd l0 k = x := ⟨_, rfl⟩
        rw [hxx] at hx
        have HS := Aside0.mk (show numsL (l0.take (k + 1)) = numsL (l0.take k) ++ encNum x by
          rw [List.take_succ_eq_append_getElem hlt, numsL_append, ← hxx]; simp [numsL, rd, hlt])
        have HL := Aside0.mk (show (numsL (l0.take k)).length ≤ 9 * 40 by
          have := numsL_le (l0.take k); rw [List.length_take] at this; omega)
        clear hxx
        go_wp2_with (first
          | (go_at_call 15; (with_reducible refine (encNum_any A c (numsL (l0.take k)) x wr HC.out (by have := HL.out; omega)).mono ?_); rintro e w3 ⟨v1, rfl, ho, hb1⟩; have HO := Aside0.mk ho; have HB3 := Aside0.mk (HB.out.step hb1); clear ho hb1))
        obtain ⟨A', c', rfl, _, hC'⟩ := Kd.R_reads HO.out
        go_roundw
        case rel => exact ⟨k + 1, A', c', by omega, by go_num, by rw [HS.out], ⟨by rw [HS.out]; exact hC'⟩, HB3⟩
        case measure => simp [intOf]; omega
      · obtain rfl : k = l0.length := by omega
        rw [List.take_length] at HC
        have HL0 := Aside0.mk (numsL_le l0)
        rw [List.take_length]
        go_wp2_with fail
        go_loopw [7, 48] (fun bv v wr => ∃ (k : Nat) (A : Option Addr) (c : Nat), k ≤ l1.length ∧ v = .int .i64 k ∧ bv = .slice A (numsL l0 ++ textsL (l1.take k)).length c ∧ Aside0 ((Kd.int .u8).C wr A (numsL l0 ++ textsL (l1.take k)).length (numsL l0 ++ textsL (l1.take k))) ∧ Aside0 (Lv w bl wr) ∧ Aside0 (∀ s ∈ l1.take k, s.size ≤ 500)) (fun bv v wr => (l1.length - intOf v).toNat)
        case atStart => exact ⟨0, A, c, by omega, rfl, by simp [textsL], ⟨by simpa [textsL] using HC.out⟩, HB, ⟨fun s hs => by simp at hs⟩⟩
        case round =>
          clear HC HB
          obtain ⟨k, A, c, hk, rfl, rfl, HC, HB, HS5⟩ := hrel
          by_cases hlt : k < l1.length
          · obtain ⟨ad, hA, hx⟩ := Kd.at_string (Kd.C_below HC1.out HB.out.below) (k : Int) (by omega) (by omega)
            subst hA
            obtain ⟨s, hss⟩ : ∃ s, rdOf ByteArray.empty l1 k = s := ⟨_, rfl⟩
            rw [hss, Int.toNat_natCast] at hx
            have HT := Aside0.mk (show l1.take (k + 1) = l1.take k ++ [s] by
              rw [List.take_succ_eq_append_getElem hlt, ← hss]; simp [rdOf, hlt])
            clear hss
            by_cases hbig : (500 : Int) < (s.size : Int)
            · go_wp2
              go_ret
              exact ⟨rfl, HB.out.below⟩
            · have HTX := Aside0.mk (show textsL (l1.take (k + 1)) = textsL (l1.take k) ++ (encNum s.size ++ bytesOf s) by
                rw [HT.out, textsL_append]; simp [textsL])
              have HL := Aside0.mk (show (numsL l0 ++ textsL (l1.take k)).length ≤ 9 * 40 + 509 * 40 by
                have h2 := textsL_len (l1.take k) HS5.out
                have h3 := HL0.out
                rw [List.length_take] at h2
                rw [List.length_append]; omega)
              have HS6 := Aside0.mk (show ∀ u ∈ l1.take (k + 1), u.size ≤ 500 from fun u hu => by
                rw [HT.out] at hu
                rcases List.mem_append.1 hu with h | h
                · exact HS5.out u h
                · rw [List.mem_singleton.1 h]; omega)
              generalize hLL : numsL l0 ++ textsL (l1.take k) = L at *
              have HLL := Aside0.mk hLL
              clear hLL
              go_wp2_with (first
                | (go_at_call 19; (with_reducible refine (encText_any A c L s wr HC.out (by have := HL.out; omega)).mono ?_); rintro e w3 ⟨v1, rfl, ho, hb1⟩; have HO := Aside0.mk ho; have HB3 := Aside0.mk (HB.out.step hb1); clear ho hb1))
              obtain ⟨A', c', rfl, _, hC'⟩ := Kd.R_reads HO.out
              have e9 : L ++ encNum s.size ++ bytesOf s = numsL l0 ++ textsL (l1.take (k + 1)) := by rw [HTX.out, ← HLL.out]; simp [List.append_assoc]
              rw [e9] at hC' ⊢
              go_roundw
              case rel => exact ⟨k + 1, A', c', by omega, by go_num, rfl, ⟨hC'⟩, HB3, HS6⟩
              case measure => simp [intOf]; omega
          · obtain rfl : k = l1.length := by omega
            rw [List.take_length] at HC HS5
            have HLB := Aside0.mk (show (numsL l0 ++ textsL l1).length ≤ 9 * 40 + 509 * 40 by
              have h2 := textsL_len l1 HS5.out
              have h3 := HL0.out
              rw [List.length_append]; omega)
            rw [List.take_length]
            obtain ⟨L, hLL⟩ : ∃ L, numsL l0 ++ textsL l1 = L := ⟨_, rfl⟩
            rw [hLL] at HC HLB ⊢
            have HLL := Aside0.mk hLL
            clear hLL hlt hk
            have HSZ := Aside0.mk (show (Try.prog.info? 32).map (·.size) = some bl.toArray.size by rw [size32, HAB.out]; simp [HBL.out])
            have HARR := Aside0.mk (show Arr 32 bl.toArray b from ⟨by rw [HAB.out]; simp [HBL.out], HBL.out, fun j hj => by rw [HAB.out]; simp [hj]⟩)
            go_wp2_with (first
              | ((with_reducible refine arm_load (cs := bl.toArray) (b := w.heap.size) ?_ ?_ (range_cs HB.out.blk) Try.underlying32 HSZ.out ?_); rfl; rfl)
              | (go_at_call 21; (with_reducible refine (encId_any A c L bl.toArray b wr HC.out (by have := HLB.out; omega) HARR.out).mono ?_); rintro e w3 ⟨v1, rfl, ho, hb1⟩; have HO := Aside0.mk ho; have HB3 := Aside0.mk (HB.out.step hb1); clear ho hb1))
            obtain ⟨A7, c7, rfl, hcap7, hC7⟩ := Kd.R_reads HO.out
            obtain ⟨B, hB⟩ : ∃ B, L ++ b = B := ⟨_, rfl⟩
            rw [hB] at hC7 hcap7 ⊢
            have HB7 := Aside0.mk hB
            have HBN := Aside0.mk (show 32 ≤ B.length ∧ B.length ≤ 30000 by
              rw [← hB, List.length_append, HBL.out]; have := HLB.out; omega)
            have HCAP := Aside0.mk hcap7
            obtain ⟨gc, hgc⟩ : ∃ gc, w3.heap.size = gc := ⟨_, rfl⟩
            have HCU := Aside0.mk (show (Kd.int .i64).C (w3.alloc (.cells #[.int .i64 0, .int .i64 1] 3)) (some ⟨gc, 0, none⟩) 2 [0, 1] from hgc ▸ C_new w3 #[.int .i64 0, .int .i64 1] 3 (0, 0) [0, 1] (by intro j hj; match j, hj with | 0, _ => rfl | 1, _ => rfl) (by decide))
            have HC7 := Aside0.mk (Kd.C_below hC7 (below_alloc (Below.refl _ _) (.cells #[.int .i64 0, .int .i64 1] 3)))
            have HB4 := Aside0.mk (HB3.out.step (below_alloc (Below.refl _ _) (.cells #[.int .i64 0, .int .i64 1] 3)))
            rw [hgc]
            clear hB hcap7 hC7 hgc HC HB HLB HO HB3
            generalize w3.alloc (.cells #[.int .i64 0, .int .i64 1] 3) = w4 at *
            go_loopw [64] (fun v wr => ∃ j : Nat, j ≤ 2 ∧ v = .int .i64 j ∧ Aside0 (Lv w bl wr) ∧ Aside0 ((Kd.int .u8).C wr A7 B.length B) ∧ Aside0 ((Kd.int .i64).C wr (some ⟨gc, 0, none⟩) 2 [0, 1])) (fun v wr => (2 - intOf v).toNat)
            case atStart => exact ⟨0, by omega, rfl, HB4, HC7, HCU⟩
            case round =>
              clear HB4 HC7 HCU
              obtain ⟨j, hj, rfl, HB, HC7, HCU⟩ := hrel
              obtain ⟨wc, rfl⟩ : ∃ wc, wc = wr := ⟨_, rfl⟩
              by_cases hlt : j < 2
              · obtain ⟨ad', e, hx⟩ := at_nat HCU.out j hlt
                injection e with e
                subst e
                have e2 : rd [(0 : Int), 1] (j : Int) = j := by
                  obtain rfl | rfl : j = 0 ∨ j = 1 := by omega
                  · rfl
                  · rfl
                rw [e2, add_plain] at hx
                clear e2
                obtain ⟨m, hm⟩ : ∃ m : Nat, m = B.length - j := ⟨_, rfl⟩
                have hw1 : wrap64 ((B.length : Int) - j) = m := by have := HBN.out; unfold wrap64; omega
                have hw2 : wrap64 (2 * (j : Int)) = 2 * (j : Int) := by unfold wrap64; omega
                have hmc : m ≤ c7 := by have := HCAP.out; omega
                have HML := Aside0.mk (show m ≤ B.length by omega)
                have HT7 := Aside0.mk (show (Kd.int .u8).C wc A7 m (B.take m) by
                  have h := Kd.C_take HC7.out HML.out
                  rw [List.length_take, Nat.min_eq_left HML.out] at h
                  exact h)
                have HM := Aside0.mk hm
                clear hm
                go_wp2_with (first
                  | (at_builtin; with_reducible refine app_row (w0 := wc) (base := wc.heap.size) rfl (.tmp 68) (.tmp 74) rfl _ [] (B.take m) A7 m c7 rfl rfl (R_empty _ _ _ _ (Nat.le_refl _)) (Kd.C_below HT7.out (below_alloc (Below.refl _ _) _)) (below_alloc (Below.refl _ _) _) (below_alloc (Below.refl _ _) _).size ?c1 ?_; (case c1 => simp; have := HBN.out; have := HML.out; omega); intro v2 w2 ho hb2 hg; rw [List.nil_append] at ho; have HO2 := Aside0.mk ho; have HB2 := Aside0.mk hb2; clear ho hb2 hg)
                  | (at_builtin; with_reducible refine app_zeros (w0 := wc) (base := wc.heap.size) rfl (.tmp 75) (.tmp 77) rfl v2 (B.take m) j hlt rfl rfl HO2.out HB2.out HB2.out.size ?c1 ?_; (case c1 => have := HBN.out; rw [List.length_take]; omega); intro v3 w3' ho hb2; have HO3 := Aside0.mk ho; have HB3 := Aside0.mk hb2; clear ho hb2))
                obtain ⟨A8, c8, rfl, _, hC8⟩ := Kd.R_reads HO3.out
                obtain ⟨T, hT⟩ : ∃ T, b.take (32 - j) ++ bytesOf (zer j) = T := ⟨_, rfl⟩
                have hD : B.take m ++ bytesOf (zer j) = numsL l0 ++ (textsL l1 ++ T) := by
                  rw [← hT, HM.out, ← HB7.out, List.length_append, HBL.out, show L.length + 32 - j = L.length + (32 - j) by omega, List.take_length_add_append, ← HLL.out]
                  simp [List.append_assoc]
                have HTT := Aside0.mk hT
                have HBT := Aside0.mk (show Bytes T by
                  rw [← hT]
                  exact bytes_append (fun x hx => HBB.out x (List.mem_of_mem_take hx)) (bytes_bytesOf _))
                have HDL := Aside0.mk (show (numsL l0 ++ (textsL l1 ++ T)).length ≤ 40000 by
                  rw [← hD, List.length_append, bytesOf_length]
                  have h1 : (zer j).size ≤ 2 := by
                    obtain rfl | rfl : j = 0 ∨ j = 1 := by omega
                    · decide
                    · decide
                  have := HBN.out
                  rw [List.length_take]; omega)
                rw [hD] at hC8 ⊢
                clear hD hT HO2 HB2 HT7 hx hw1 hw2
                refine (read_any A8 c8 _ w3' hC8 (by have := HDL.out; omega)).mono ?_
                rintro e w5 ⟨g, rfl, hr, hb⟩
                have HR := Aside0.mk (hr.base HB3.out)
                clear hr hb HO3 HB3 hC8
                have HG := Aside0.mk (show wc.heap.size ≤ g from HR.out.lo)
                have hmx := fun W x => run_max Try.prog #[2, 2] 2 .i64 x 0 W
                have hmn := fun W x => run_min Try.prog #[2, 2] 2 .i64 x 4611686018427387904 W
                go_wp2_with fail
                go_loopw [15, 82] (fun ok v wq => ∃ k : Nat, k ≤ l0.length ∧ v = .int .i64 k ∧ ok = .bool true ∧ Aside0 (Rd wc wq g (numsL (l0.drop k) ++ (textsL l1 ++ T)) false)) (fun _ v _ => (l0.length - intOf v).toNat)
                case atStart => exact ⟨0, by omega, rfl, rfl, HR⟩
                case round =>
                  clear HR
                  obtain ⟨k, hk, rfl, rfl, HR⟩ := hrel
                  by_cases hlt : k < l0.length
                  · obtain ⟨ad, hA, hx⟩ := at_nat (Kd.C_below HC0.out (HB.out.step HR.out.below).below) k hlt
                    subst hA
                    have hst := num_step l0 k hlt (textsL l1 ++ T)
                    obtain ⟨x, hxx⟩ : ∃ x, rd l0 k = x := ⟨_, rfl⟩
                    rw [hxx] at hx hst
                    have HST := Aside0.mk hst
                    have HBY := Aside0.mk (show Bytes (numsL (l0.drop k) ++ (textsL l1 ++ T)) from bytes_append (bytes_numsL _) (bytes_append (bytes_textsL _) HBT.out))
                    clear hxx hst
                    go_wp2_with (first
                      | (go_at_call 27; (with_reducible refine (rdNum_any _ _ g _ false 4611686018427387904 HR.out HBY.out (by decide)).mono ?_); rw [HST.out]; rintro e w3 ⟨rfl, hr3, hg3⟩; have HR3 := Aside0.mk hr3; clear hr3 hg3))
                    go_roundw
                    case rel => exact ⟨k + 1, by omega, by go_num, ret_val_bool (by show (_ == _) = true; simp [clamp]), HR3⟩
                    case measure => simp [intOf]; omega
                  · obtain rfl : k = l0.length := by omega
                    rw [List.drop_length] at HR
                    have HR := Aside0.mk (show Rd wc _ g (textsL (l1.drop 0) ++ T) false from HR.out)
                    clear hlt hk
                    go_wp2_with fail
                    go_loopw [15, 98] (fun ok v wq => ∃ k : Nat, k ≤ l1.length ∧ v = .int .i64 k ∧ ok = .bool true ∧ Aside0 (Rd wc wq g (textsL (l1.drop k) ++ T) false)) (fun _ v _ => (l1.length - intOf v).toNat)
                    case atStart => exact ⟨0, by omega, rfl, rfl, HR⟩
                    case round =>
                      clear HR
                      obtain ⟨k, hk, rfl, rfl, HR⟩ := hrel
                      by_cases hlt : k < l1.length
                      · obtain ⟨ad, hA, hx⟩ := Kd.at_string (Kd.C_below HC1.out (HB.out.step HR.out.below).below) (k : Int) (by omega) (by omega)
                        subst hA
                        have hst := text_step l1 k hlt T HS5.out
                        rw [Int.toNat_natCast] at hx
                        obtain ⟨x, hxx⟩ : ∃ x, rdOf ByteArray.empty l1 k = x := ⟨_, rfl⟩
                        rw [hxx] at hx hst
                        have HST := Aside0.mk hst
                        have HSB := Aside0.mk (str_back x)
                        have HBY := Aside0.mk (show Bytes (textsL (l1.drop k) ++ T) from (bytes_append (bytes_textsL _) HBT.out))
                        clear hxx hst
                        go_wp2_with (first
                          | (go_at_call 29; (with_reducible refine (rdText_any _ _ g _ false 500 HR.out HBY.out (by decide)).mono ?_); rw [HST.out]; rintro e w3 ⟨rfl, hr3, hg3⟩; rw [HSB.out]; have HR3 := Aside0.mk hr3; clear hr3 hg3))
                        go_roundw
                        case rel => exact ⟨k + 1, by omega, by go_num, ret_val_bool (by simp), HR3⟩
                        case measure => simp [intOf]; omega
                      · obtain rfl : k = l1.length := by omega
                        rw [List.drop_length] at HR
                        have HR := Aside0.mk (show Rd wc _ g T false from HR.out)
                        clear hlt hk
                        clear hmx hmn
                        have hgB := HG.out
                        by_cases hj0 : j = 0
                        · have HIR := Aside0.mk (show idR T false = (b, [], false) by
                            rw [← HTT.out, hj0]
                            have := idR_enc b [] HBL.out
                            rw [show b.take (32 - 0) ++ bytesOf (zer 0) = b ++ [] by rw [List.take_of_length_le (by rw [HBL.out]; omega)]; rfl]
                            exact this)
                          have hz := fun W => (eq32 W b b HBL.out HBL.out).trans (by rw [decide_eq_true rfl])
                          rw [← HAB.out] at hz
                          have hjb0 : ((j : Int) == 0) = true := by rw [hj0]; rfl
                          have hjb1 : ((j : Int) == 1) = false := by rw [hj0]; rfl
                          have HJ := Aside0.mk hj0
                          clear hj0
                          go_wp2_with (first
                            | (go_at_call 31; (with_reducible refine (rdId_any _ _ g _ false HR.out).mono ?_); rw [HIR.out]; rintro e w6 ⟨cs, rfl, rfl, _, hr6, hg6⟩; rw [← HAB.out]; have HR6 := Aside0.mk hr6; clear hr6 hg6)
                            | ((with_reducible refine arm_store_new (ty := 32) (c' := bl.toArray) ?_ ?_ HSZ.out ?_ ?_ ?_); rfl; rfl; (rw [HAB.out]; simp [HBL.out]); (rw [HAB.out]; exact all_oneCell_toArray (nums_one _)))
                            | ((with_reducible refine arm_load (cs := bl.toArray) (b := w6.heap.size) ?_ ?_ (range_cs (heap_alloc_new w6 _)) Try.underlying32 HSZ.out ?_); rfl; rfl)
                            | ((with_reducible refine arm_load (cs := bl.toArray) (b := w.heap.size) ?_ ?_ (range_cs (HB.out.step (HR6.out.alloc _).below).blk) Try.underlying32 HSZ.out ?_); rfl; rfl)
                            | (go_at_call 37; (with_reducible refine (done_any wc _ g [] false (HR6.out.alloc _)).mono ?_); rintro e w8 ⟨rfl, rfl⟩))
                          have HWF := Aside0.mk (HR6.out.alloc (.cells bl.toArray 32)).below
                          go_roundw
                          case rel => exact ⟨j + 1, by omega, by go_num, ⟨HB.out.step HWF.out⟩, ⟨Kd.C_below HC7.out HWF.out⟩, ⟨Kd.C_below HCU.out HWF.out⟩⟩
                          case measure => simp [intOf]; omega
                        · have hj1 : j = 1 := by omega
                          obtain ⟨d, hd⟩ : ∃ d, b.take 31 ++ [(0 : Int)] = d := ⟨_, rfl⟩
                          have HDL := Aside0.mk (show d.length = 32 by rw [← hd]; simp [HBL.out])
                          have HIR := Aside0.mk (show idR T false = (d, [0], false) by
                            have := idR_enc d [0] HDL.out
                            rw [← HTT.out, hj1, show b.take (32 - 1) ++ bytesOf (zer 1) = d ++ [0] by rw [← hd, List.append_assoc]; rfl]
                            exact this)
                          have HDS := Aside0.mk (show (Try.prog.info? 32).map (·.size) = some (d.map (Value.int .u8)).toArray.size by rw [size32]; simp [HDL.out])
                          have hjb0 : ((j : Int) == 0) = false := by rw [hj1]; rfl
                          have hjb1 : ((j : Int) == 1) = true := by rw [hj1]; rfl
                          have HJ := Aside0.mk hj1
                          clear hj0 hj1 hd
                          go_wp2_with (first
                            | (go_at_call 31; (with_reducible refine (rdId_any _ _ g _ false HR.out).mono ?_); rw [HIR.out]; rintro e w6 ⟨cs, rfl, rfl, _, hr6, hg6⟩; have HR6 := Aside0.mk hr6; clear hr6 hg6)
                            | ((with_reducible refine arm_store_new (ty := 32) (c' := (d.map (Value.int .u8)).toArray) ?_ ?_ HDS.out ?_ ?_ ?_); rfl; rfl; (simp [HDL.out]); (exact all_oneCell_toArray (nums_one _)))
                            | (go_at_call 37; (with_reducible refine (done_any wc _ g [0] false (HR6.out.alloc _)).mono ?_); rintro e w8 ⟨rfl, rfl⟩)
                            | (go_at_call 36; (with_reducible refine (left_any wc _ g [0] false (HR6.out.alloc _)).mono ?_); rintro e w8 ⟨rfl, rfl⟩))
                          have HWF := Aside0.mk (HR6.out.alloc (.cells (d.map (Value.int .u8)).toArray 32)).below
                          go_roundw
                          case rel => exact ⟨j + 1, by omega, by go_num, ⟨HB.out.step HWF.out⟩, ⟨Kd.C_below HC7.out HWF.out⟩, ⟨Kd.C_below HCU.out HWF.out⟩⟩
                          case measure => simp [intOf]; omega
              · obtain rfl : j = 2 := by omega
                clear HCU hlt hj
                obtain ⟨m, hm⟩ : ∃ m : Nat, m = B.length - 1 := ⟨_, rfl⟩
                have hw1 : wrap64 ((B.length : Int) - 1) = m := by have := HBN.out; unfold wrap64; omega
                have hmc : m ≤ c7 := by have := HCAP.out; omega
                have HML := Aside0.mk (show m ≤ B.length by omega)
                have hT7 : (Kd.int .u8).C wc A7 m (B.take m) := by
                  have h := Kd.C_take HC7.out HML.out
                  rw [List.length_take, Nat.min_eq_left HML.out] at h
                  exact h
                have hD : B.take m = numsL l0 ++ (textsL l1 ++ b.take 31) := by
                  rw [hm, ← HB7.out, List.length_append, HBL.out, show L.length + 32 - 1 = L.length + 31 by omega, List.take_length_add_append, ← HLL.out]
                  simp [List.append_assoc]
                have hDN : (B.take m).length = m := by rw [List.length_take, Nat.min_eq_left HML.out]
                rw [hD] at hT7 hDN
                have HT7 := Aside0.mk hT7
                have HDN := Aside0.mk hDN
                have HM := Aside0.mk hm
                have HBT := Aside0.mk (show Bytes (b.take 31) from fun x hx => HBB.out x (List.mem_of_mem_take hx))
                have HIR := Aside0.mk (show idR (b.take 31) false = (zeros32, [], true) from idR_short _ (by rw [List.length_take]; omega))
                have HMB := Aside0.mk (show m ≤ 140737488355328 by have := HBN.out; omega)
                clear hD hm hT7 hDN
                go_wp2_with fail
                have e := HDN.out
                subst e
                refine (read_any A7 c7 _ wc HT7.out HMB.out).mono ?_
                rintro e w5 ⟨g, rfl, hr, hb⟩
                have HR := Aside0.mk hr
                clear hr hb HT7 HDN HML HM HMB hmc hw1
                go_wp2_with fail
                go_loopw [150] (fun v wq => ∃ k : Nat, k ≤ l0.length ∧ v = .int .i64 k ∧ Aside0 (Rd wc wq g (numsL (l0.drop k) ++ (textsL l1 ++ b.take 31)) false)) (fun v _ => (l0.length - intOf v).toNat)
                case atStart => exact ⟨0, by omega, rfl, HR⟩
                case round =>
                  clear HR
                  obtain ⟨k, hk, rfl, HR⟩ := hrel
                  by_cases hlt : k < l0.length
                  · have HST := Aside0.mk (num_step l0 k hlt (textsL l1 ++ b.take 31))
                    have HBY := Aside0.mk (show Bytes (numsL (l0.drop k) ++ (textsL l1 ++ b.take 31)) from bytes_append (bytes_numsL _) (bytes_append (bytes_textsL _) HBT.out))
                    go_wp2_with (first
                      | (go_at_call 27; (with_reducible refine (rdNum_any _ _ g _ false 4611686018427387904 HR.out HBY.out (by decide)).mono ?_); rw [HST.out]; rintro e w3 ⟨rfl, hr3, hg3⟩; have HR3 := Aside0.mk hr3; clear hr3 hg3))
                    go_roundw
                    case rel => exact ⟨k + 1, by omega, by go_num, HR3⟩
                    case measure => simp [intOf]; omega
                  · obtain rfl : k = l0.length := by omega
                    rw [List.drop_length] at HR
                    have HR := Aside0.mk (show Rd wc _ g (textsL (l1.drop 0) ++ b.take 31) false from HR.out)
                    clear hlt hk
                    go_wp2_with fail
                    go_loopw [157] (fun v wq => ∃ k : Nat, k ≤ l1.length ∧ v = .int .i64 k ∧ Aside0 (Rd wc wq g (textsL (l1.drop k) ++ b.take 31) false)) (fun v _ => (l1.length - intOf v).toNat)
                    case atStart => exact ⟨0, by omega, rfl, HR⟩
                    case round =>
                      clear HR
                      obtain ⟨k, hk, rfl, HR⟩ := hrel
                      by_cases hlt : k < l1.length
                      · have HST := Aside0.mk (text_step l1 k hlt (b.take 31) HS5.out)
                        have HBY := Aside0.mk (show Bytes (textsL (l1.drop k) ++ b.take 31) from (bytes_append (bytes_textsL _) HBT.out))
                        go_wp2_with (first
                          | (go_at_call 29; (with_reducible refine (rdText_any _ _ g _ false 500 HR.out HBY.out (by decide)).mono ?_); rw [HST.out]; rintro e w3 ⟨rfl, hr3, hg3⟩; have HR3 := Aside0.mk hr3; clear hr3 hg3))
                        go_roundw
                        case rel => exact ⟨k + 1, by omega, by go_num, HR3⟩
                        case measure => simp [intOf]; omega
                      · obtain rfl : k = l1.length := by omega
                        rw [List.drop_length] at HR
                        have HR := Aside0.mk (show Rd wc _ g (b.take 31) false from HR.out)
                        have hz := eqz
                        clear hlt hk
                        go_wp2_with (first
                          | (go_at_call 31; (with_reducible refine (rdId_any _ _ g _ false HR.out).mono ?_); rw [HIR.out]; rintro e w6 ⟨cs, rfl, rfl, _, hr6, hg6⟩; have HR6 := Aside0.mk hr6; clear hr6 hg6)
                          | (go_at_call 35; (with_reducible refine (good_any wc _ g [] true HR6.out).mono ?_); rintro e w8 ⟨rfl, rfl⟩)
                          | (go_at_call 37; (with_reducible refine (done_any wc _ g [] true HR6.out).mono ?_); rintro e w8 ⟨rfl, rfl⟩))
                        go_ret
                        exact ⟨rfl, (HB.out.step HR6.out.below).below⟩
theorem EncBack_walk (A0 : Option Addr) (c0 : Nat) (l0 : List Int) (A1 : Option Addr) (c1 : Nat) (l1 : List ByteArray) (bl : List Value) (b : List Int) (w : World)
    (hr0 : Kd.C (Kd.int .i64) w A0 l0.length l0) (hc0 : l0.length ≤ c0) (hw0 : ∀ x ∈ l0, (Lit.int .i64 x).wf = true) (hb0 : l0.length * 8 ≤ 140737488351232)
    (hr1 : Kd.C Kd.string w A1 l1.length l1) (hc1 : l1.length ≤ c1) (hs1 : ∀ s ∈ l1, s.size ≤ maxLen) (ha2 : Arr 32 bl.toArray b) (hw2 : ∀ x ∈ b, (Lit.int .u8 x).wf = true) :
    Calls Try.prog 9 #[.slice A0 l0.length c0, .slice A1 l1.length c1, .agg bl.toArray] w fun e w' => e = .returned (.bool true) ∧ Below w.heap.size w w' := by
  have hsz : bl.length = 32 := by simpa using ha2.size
  refine EncBack_core A0 c0 l0 A1 c1 l1 bl b w hr0 hr1 ?_ ha2.len (fun x hx => wf_u8 (hw2 x hx))
  refine List.ext_getElem (by rw [hsz, List.length_map, ha2.len]) fun i h1 h2 => ?_
  have hi : i < b.length := by rw [ha2.len]; omega
  have := ha2.at_ i hi
  simp at this
  obtain ⟨_, h3⟩ := List.getElem?_eq_some_iff.1 this
  rw [h3]
  simp [hi]
end Go.Proofs.Ytighpoelpedneaa

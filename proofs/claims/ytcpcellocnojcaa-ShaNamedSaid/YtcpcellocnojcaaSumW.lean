/- What sha.Sum computes: the sum of the bytes, by 'sumF'; nothing that was there changes. No condition but the length's. -/
import Derived.Test.YtcpcellocnojcaaSumN
import Derived.Test.YtcpcellocnojcaaTakeA
namespace Go.Proofs.Ytcpcellocnojcaa
open Go Go.RowKit Go.Proofs.YtcpcellocnojcaaW.PrintWords
set_option linter.unusedVariables false
set_option linter.unusedSimpArgs false

theorem elem32 : Try.prog.elem 32 = 5 := by kernel_rfl
theorem slice_low (W : World) (A : Option Addr) (n c i : Nat) (k : IntKind) (h : i ≤ n) :
    (Instr.sliceAt 32 (.slice A n c) (some (.int k i)) none none).run Try.prog W = .ok (.slice (if c = i then A else A.map (·.add i)) (n - i) (c - i)) W := by
  have hu : Try.prog.underlying 32 = some (.slice (Try.prog.elem 32)) := by rw [elem32]; exact Try.underlying32
  rw [run_sliceAt_slice W 32 _ _ _ _ hu, run_slice_l W 32 A n c hu k (i : Int) (by omega) (by omega), elem32, Try.sizeOf5]
  simp [Result.andThen, sliced]
theorem arm_slice64 {ops : Array Oper} {rest : List Oper} {a : Act} {w : World} {Q : Exit → Act → World → Prop} {t0 : TypeId} {x : Operand} {d : Option Tmp} {ps : String} {af : Array Edge} {A : Option Addr} {n c : Nat}
    (hx : a.eval x = .slice A n c) (h : 64 ≤ n)
    (hk : wpList Try.prog ops Q rest (a.put d (.slice (if c = 64 then A else A.map (·.add 64)) (n - 64) (c - 64))) w) :
    wpList Try.prog ops Q ({ dst := d, op := .slice 32 x (some (.const (.int .i64 64))) none none, type := t0, pos := ps, after := af, guard := none } :: rest) a w :=
  wpList_plain (o := { dst := d, op := .slice 32 x (some (.const (.int .i64 64))) none none, type := t0, pos := ps, after := af, guard := none }) rfl fun K hK => by
    unfold Oper.wp execOp
    have hc : a.eval (.const (.int .i64 64)) = .int .i64 ((64 : Nat) : Int) := rfl
    simp only [Sem.run_bind, Sem.run_pure, Result.andThen_ok, Option.map_some, Option.map_none, hx, hc, slice_low w A n c 64 .i64 h]
    exact hK _ _ hk
theorem drop64_C {w : World} {A : Option Addr} {c : Nat} {l : List Int} (hC : (Kd.int .u8).C w A l.length l) (hc : l.length ≤ c) (h : 64 ≤ l.length) :
    (Kd.int .u8).C w (if c = 64 then A else A.map (·.add 64)) (l.drop 64).length (l.drop 64) := by
  have hd := Kd.C_drop hC h hc
  have e1 : 64 * (Kd.int .u8).sz = 64 := Nat.mul_one 64
  rw [e1] at hd
  exact hd
theorem C_grown {w w' : World} {A : Option Addr} {n g : Nat} {xs : List Int} (hC : (Kd.int .u8).C w A n xs) (hg : w.grownBy w' (some g)) (hne : ∀ ad, A = some ad → ad.block ≠ g) : (Kd.int .u8).C w' A n xs := by
  have hr : ReadsOf (Value.int .u8) (0 : Int) w A n xs := Kd.reads_of_C hC
  refine Kd.C_of_reads (d := (0 : Int)) (h1 := fun _ => rfl) ⟨hr.1, hr.2.1, fun hn' => ?_⟩
  obtain ⟨ad, e, hcc⟩ := hr.2.2 hn'
  refine ⟨ad, e, fun j hj => ?_⟩
  have hcell := hcc j hj
  rw [World.cell?_of_block (w := w) (hg.block (ad.add j).block (World.block_lt_of_cell? w _ hcell) (fun e2 => by rw [add_block] at e2; injection e2 with e2; exact hne ad e e2))]
  exact hcell
theorem size23z : (Try.prog.info? 23).map (·.size) = some ((List.replicate 32 (0 : Int)).map (Value.int .u8)).toArray.size := by rw [size23]; rfl

/-- What stays while a sum is made: all that was there, the ID's block, the rounds' words; the state. -/
structure Sv (w : World) (gk gs : Nat) (H : List Int) (W : World) : Prop where
  below : Below w.heap.size w W
  id : W.heap[w.heap.size]? = some (.cells ((List.replicate 32 (0 : Int)).map (Value.int .u8)).toArray 23 (0, 0))
  k : W.heap[gk]? = some (.cells (u32s kc) 98 (0, 0))
  s : W.heap[gs]? = some (.cells (u32s H) 69 (0, 0))
  lt1 : w.heap.size < gk
  lt2 : gk < gs
theorem Sv.take {w W W' : World} {gk gs : Nat} {H H' : List Int} (h : Sv w gk gs H W) (hs : W'.heap[gs]? = some (.cells (u32s H') 69 (0, 0))) (hg : W.grownBy W' (some gs)) : Sv w gk gs H' W' :=
  ⟨h.below.grown hg h.below.size (fun k e => by injection e with e; have := h.lt1; have := h.lt2; omega), (hg.block _ (blk_lt h.id) (fun e => by injection e with e; have := h.lt1; have := h.lt2; omega)).trans h.id,
    (hg.block _ (blk_lt h.k) (fun e => by injection e with e; have := h.lt2; omega)).trans h.k, hs, h.lt1, h.lt2⟩
theorem Sv.step {w W W' : World} {gk gs : Nat} {H : List Int} (h : Sv w gk gs H W) (k : Below W.heap.size W W') : Sv w gk gs H W' :=
  ⟨below_step h.below k, (k.block _ (blk_lt h.id)).trans h.id, (k.block _ (blk_lt h.k)).trans h.k, (k.block _ (blk_lt h.s)).trans h.s, h.lt1, h.lt2⟩
theorem u32s_at (l : List Int) : ∀ j, j < l.length → (u32s l)[j]? = some (.int .u32 (l.getD j 0)) := fun j hj => by rw [u32s_get l j hj]; simp [rd]
theorem Sv.kC {w W : World} {gk gs : Nat} {H : List Int} (h : Sv w gk gs H W) : (Kd.int .u32).C W (some ⟨gk, 0, none⟩) 64 kc :=
  C_block h.k kc (u32s_at kc) (by decide)
def sliceLen : Value → Nat
  | .slice _ n _ => n
  | _ => 0

set_option maxHeartbeats 4000000 in
set_option maxRecDepth 20000 in
theorem sum_any (A : Option Addr) (c : Nat) (l : List Int) (w : World) (hC : (Kd.int .u8).C w A l.length l) (hc : l.length ≤ c) (hl : l.length ≤ 140737488351232) :
    Calls Try.prog 19 #[.slice A l.length c] w fun e w' => e = .returned (.agg ((sumF l).map (Value.int .u8)).toArray) ∧ Below w.heap.size w w' := by
  have HC := Aside0.mk hC
  have HCC := Aside0.mk hc
  have HL := Aside0.mk hl
  clear hC hc hl
  go_enter Try.func19, Try.ntmps19
  go_wp2_with fail
  generalize hW : w.alloc _ = W0
  have HID := Aside0.mk (show W0.heap[w.heap.size]? = some (.cells ((List.replicate 32 (0 : Int)).map (Value.int .u8)).toArray 23 (0, 0)) by rw [← hW]; exact heap_alloc_new w _)
  have HB0 := Aside0.mk (show Below w.heap.size w W0 by rw [← hW]; exact below_alloc (Below.refl _ _) _)
  clear hW
  refine (begin_any W0).mono ?_
  rintro e w1 ⟨rfl, hb1⟩
  have HB1 := Aside0.mk hb1
  clear hb1
  go_wp2_with fail
  refine (rounds_any w1).mono ?_
  rintro e w2 ⟨rfl, hk2, hb2⟩
  have HK2 := Aside0.mk hk2
  have HB2 := Aside0.mk hb2
  clear hk2 hb2
  obtain ⟨gk, hgk⟩ : ∃ gk, gk = w1.heap.size := ⟨_, rfl⟩
  rw [← hgk] at HK2 ⊢
  have HGK := Aside0.mk hgk
  clear hgk
  go_wp2_with (first
    | ((with_reducible refine arm_store_new (ty := 69) (c' := u32s iv) ?_ ?_ hs69a ?_ (u32s_one _) ?_); rfl; rfl; rfl))
  have HSv := Aside0.mk (show Sv w gk w2.heap.size (foldN kc 0 iv l) (w2.alloc (.cells (u32s iv) 69)) from by
    have b1 := below_step HB0.out HB1.out
    have b2 := below_step b1 HB2.out
    have hlt : gk < w2.heap.size := blk_lt HK2.out
    have hid2 := (HB2.out.block _ (blk_lt ((HB1.out.block _ (blk_lt HID.out)).trans HID.out))).trans ((HB1.out.block _ (blk_lt HID.out)).trans HID.out)
    exact ⟨below_alloc b2 _, (heap_alloc_old _ _ (blk_lt hid2)).trans hid2, (heap_alloc_old _ _ hlt).trans HK2.out, heap_alloc_new _ _, by rw [HGK.out]; exact Nat.lt_of_lt_of_le (blk_lt HID.out) HB1.out.size, hlt⟩)
  obtain ⟨gs, hgs⟩ : ∃ gs, gs = w2.heap.size := ⟨_, rfl⟩
  rw [← hgs] at HSv ⊢
  clear hgs
  generalize w2.alloc (.cells (u32s iv) 69) = W3 at *
  go_loopw [5] (fun v wr => ∃ (i : Nat) (A' : Option Addr) (c' : Nat), 64 * i ≤ l.length ∧ v = .slice A' (l.drop (64 * i)).length c' ∧ Aside0 ((Kd.int .u8).C w A' (l.drop (64 * i)).length (l.drop (64 * i))) ∧ Aside0 ((l.drop (64 * i)).length ≤ c') ∧ Aside0 (Sv w gk gs (foldN kc i iv l) wr)) (fun v _ => sliceLen v)
  case atStart => exact ⟨0, A, c, by omega, by simp, ⟨by simpa using HC.out⟩, ⟨by simpa using HCC.out⟩, HSv⟩
  case round =>
    clear HSv
    obtain ⟨i, A', c', hi, rfl, HCR, HCP, HSv⟩ := hrel
    obtain ⟨R, hR⟩ : ∃ R, l.drop (64 * i) = R := ⟨_, rfl⟩
    have HRL := Aside0.mk (show R.length = l.length - 64 * i by rw [← hR, List.length_drop])
    rw [hR] at HCR HCP ⊢
    have HRE := Aside0.mk hR
    have HFL := Aside0.mk (foldN_len kc i iv l rfl)
    clear hR
    by_cases hlt : 64 ≤ R.length
    · go_wp2_with (first
        | (go_at_call 36; (with_reducible refine (take_any wr gs gk _ kc A' c' R 69 HSv.out.s HFL.out HSv.out.kC (Kd.C_below HCR.out HSv.out.below) hlt).mono ?_); rintro e w3 ⟨rfl, hs3, hg3⟩; have HSv3 := Aside0.mk (HSv.out.take hs3 hg3); clear hs3 hg3)
        | ((with_reducible refine arm_slice64 (A := A') (n := R.length) (c := c') ?_ hlt ?_); rfl))
      have hd : l.drop (64 * (i + 1)) = R.drop 64 := by rw [← HRE.out, List.drop_drop]; rfl
      have hS : foldN kc (i + 1) iv l = blkF (foldN kc i iv l) kc R := by rw [foldN_succ, HRE.out]
      go_roundw
      case rel =>
        refine ⟨i + 1, if c' = 64 then A' else A'.map (·.add 64), c' - 64, by have := HRL.out; omega, ?_, ?_, ?_, ?_⟩
        · rw [hd, List.length_drop]; rfl
        · rw [hd]; exact ⟨drop64_C HCR.out HCP.out hlt⟩
        · rw [hd, List.length_drop]; exact ⟨by have := HCP.out; omega⟩
        · rw [hS]; exact HSv3
      case measure => show R.length - 64 < R.length; omega
    · have HSPL := Aside0.mk (sumF_split l i hi (by have := HRL.out; omega))
      rw [HRE.out] at HSPL
      obtain ⟨H1, hH1⟩ : ∃ H, foldN kc i iv l = H := ⟨_, rfl⟩
      rw [hH1] at HSPL HSv HFL
      have HRN := Aside0.mk (show zN l.length = zN R.length by rw [HRL.out]; unfold zN; omega)
      clear hH1
      obtain ⟨wc, rfl⟩ : ∃ wc, wc = wr := ⟨_, rfl⟩
      have HCw := Aside0.mk (Kd.C_below HCR.out HSv.out.below)
      go_wp2_with (first
        | (go_at_call 37; (with_reducible refine (clone_any A' c' R wc HCw.out (by omega)).mono ?_); rintro e w3 ⟨v1, rfl, ho, hb1⟩; have HO := Aside0.mk ho; have HSv3 := Aside0.mk (HSv.out.step hb1); have HBC := Aside0.mk hb1; clear ho hb1)
        | (at_builtin; refine app_one (w0 := wc) (base := wc.heap.size) rfl (.tmp 23) (.tmp 24) rfl _ R _ rfl rfl HO.out HBC.out HBC.out.size ?c1 ?_; (case c1 => omega); intro v2 w4 ho hb2 hg; have HO2 := Aside0.mk ho; have HBC2 := Aside0.mk hb2; clear ho hb2 hg))
      have HSv4 := Aside0.mk (HSv.out.step HBC2.out)
      have HT1 := Aside0.mk (show R ++ [128] = R ++ 128 :: List.replicate 0 0 from rfl)
      rw [HT1.out] at HO2
      clear HSv3 HO HBC
      go_loopw [6] (fun v wq => ∃ z : Nat, z ≤ zN R.length ∧ Aside0 ((Kd.int .u8).R 5 wq wc.heap.size (fun _ => True) v (R ++ 128 :: List.replicate z 0)) ∧ Aside0 (Below wc.heap.size wc wq)) (fun v _ => 128 - sliceLen v)
      case atStart => exact ⟨0, by omega, HO2, HBC2⟩
      case round =>
        clear HO2 HBC2 HSv4
        obtain ⟨z, hz, HO, HBC⟩ := hrel
        obtain ⟨A6, c6, rfl, _, hC6⟩ := Kd.R_reads HO.out
        obtain ⟨T, hT⟩ : ∃ T, R ++ 128 :: List.replicate z 0 = T := ⟨_, rfl⟩
        rw [hT] at HO hC6 ⊢
        have HTL := Aside0.mk (show T.length = R.length + 1 + z by rw [← hT]; simp; omega)
        have HTE := Aside0.mk hT
        clear hT
        have HZN := Aside0.mk (show zN R.length = (119 - R.length) % 64 by unfold zN; omega)
        by_cases hlz : z < zN R.length
        · have htz : ((T.length : Int) % 64 != 56) = true := by
            have h1 := HTL.out
            have h2 := HZN.out
            simp
            omega
          go_wp2_with (first
            | (at_builtin; refine app_one (w0 := wc) (base := wc.heap.size) rfl (.tmp 30) (.tmp 31) rfl _ T _ rfl rfl HO.out HBC.out HBC.out.size ?c1 ?_; (case c1 => have := HTL.out; have := HZN.out; omega); intro v2 w4 ho hb2 hg; have HO2 := Aside0.mk ho; have HBC2 := Aside0.mk hb2; clear ho hb2 hg))
          obtain ⟨A7, c7, rfl, _, _⟩ := Kd.R_reads HO2.out
          have hT2 : R ++ 128 :: List.replicate (z + 1) 0 = T ++ [0] := by
            rw [← HTE.out, List.replicate_succ']
            simp
          go_roundw
          case rel => exact ⟨z + 1, by omega, by rw [hT2]; exact HO2, HBC2⟩
          case measure => show 128 - (T ++ [0]).length < 128 - T.length; have h1 := HTL.out; have h2 := HZN.out; rw [List.length_append]; simp; omega
        · have hzz : z = zN R.length := by omega
          have htz : ((T.length : Int) % 64 != 56) = false := by
            have h1 := HTL.out
            have h2 := HZN.out
            simp
            omega
          have HT56 := Aside0.mk (show T.length = R.length + 1 + zN R.length by rw [HTL.out, hzz])
          have HTF := Aside0.mk (show T ++ len8 l.length = R ++ padL l.length by
            rw [← HTE.out, hzz]
            unfold padL
            rw [HRN.out]
            simp)
          clear hlz hzz hz
          go_wp2_with fail
          go_loopw [6, 7] (fun v v7 wq => ∃ (n : Nat) (x : Int), n ≤ 8 ∧ v7 = .int .i64 x ∧ -1 ≤ x ∧ x ≤ 7 ∧ Aside0 (x = 7 - n) ∧ Aside0 ((Kd.int .u8).R 5 wq wc.heap.size (fun _ => True) v (T ++ (len8 l.length).take n)) ∧ Aside0 (Below wc.heap.size wc wq)) (fun _ v7 _ => (intOf v7 + 1).toNat)
          case atStart => exact ⟨0, 7, by omega, rfl, by omega, by omega, ⟨by omega⟩, ⟨by simpa using HO.out⟩, HBC⟩
          case round =>
            clear HO HBC
            obtain ⟨n, x, hn, rfl, hx1, hx7, HX, HO, HBC⟩ := hrel
            obtain ⟨A9, c9, rfl, _, _⟩ := Kd.R_reads HO.out
            obtain ⟨U, hU⟩ : ∃ U, T ++ (len8 l.length).take n = U := ⟨_, rfl⟩
            rw [hU] at HO ⊢
            have HUL := Aside0.mk (show U.length = T.length + n by rw [← hU, List.length_append, List.length_take]; simp [len8]; omega)
            have HUE := Aside0.mk hU
            clear hU
            by_cases hlt : 0 ≤ x
            · obtain ⟨m, hm⟩ : ∃ m : Nat, m = 8 * x.toNat := ⟨_, rfl⟩
              have hw : wrap64 (8 * x) = (m : Int) := by unfold wrap64; omega
              have HM := Aside0.mk hm
              clear hm
              go_wp2_with (first
                | (at_builtin; refine app_one (w0 := wc) (base := wc.heap.size) rfl (.tmp 37) (.tmp 46) rfl _ U _ rfl rfl HO.out HBC.out HBC.out.size ?c1 ?_; (case c1 => have := HUL.out; have := HT56.out; have := HZN.out; omega); intro v2 w4 ho hb2 hg; have HO2 := Aside0.mk ho; have HBC2 := Aside0.mk hb2; clear ho hb2 hg))
              obtain ⟨A10, c10, rfl, _, _⟩ := Kd.R_reads HO2.out
              have hn8 : n < 8 := by have := HX.out; omega
              have hU2 : T ++ (len8 l.length).take (n + 1) = U ++ [IntKind.u64.wrap (IntKind.u64.wrap (l.length : Int) * 8) / 2 ^ (8 * x).toNat % 256] := by
                rw [len8_take _ _ hn8, lbyte_of _ n x HL.out HX.out hlt, ← HUE.out, List.append_assoc]
              go_roundw
              case rel => exact ⟨n + 1, x - 1, by omega, by go_num, by omega, by omega, ⟨by have := HX.out; omega⟩, ⟨by rw [hU2]; exact HO2.out⟩, HBC2⟩
              case measure => simp [intOf]; omega
            · have hn8 : n = 8 := by have := HX.out; omega
              have hUT : U = R ++ padL l.length := by
                rw [← HUE.out, hn8, List.take_of_length_le (by simp [len8]), HTF.out]
              have HUM := Aside0.mk (show U.length % 64 = 0 by
                rw [hUT, List.length_append, padL_len, HRN.out]; have := HZN.out; omega)
              have HSPL2 := Aside0.mk (show sumF l = outN (foldN kc (U.length / 64) H1 U) 8 by
                rw [HSPL.out, hUT, List.length_append, padL_len])
              have HU0 := Aside0.mk (show 64 ≤ U.length ∧ U.length ≤ 200 by have h1 := HUM.out; have := HUL.out; have := HT56.out; have := HZN.out; omega)
              clear hn8 hUT HSPL HTF
              obtain ⟨gt, cap, hv, hgt, _⟩ := R_form HO.out (by decide) (by have := HU0.out; omega)
              injection hv with hA hlen hcap
              subst hA hcap
              obtain ⟨A11, c11, hv2, hc11, hC11⟩ := Kd.R_reads HO.out
              injection hv2 with hA hlen2 hcap
              subst hA hcap
              have HSw := Aside0.mk (HSv.out.step HBC.out)
              have HGT := Aside0.mk (show gt ≠ gs from fun e => by have := blk_lt HSv.out.s; omega)
              have HC11 := Aside0.mk hC11
              have HCAP := Aside0.mk hc11
              obtain ⟨wd, rfl⟩ : ∃ wd, wd = wr := ⟨_, rfl⟩
              clear hgt hlen hlen2 hC11 hc11 HBC HO
              go_wp2_with fail
              go_loopw [6] (fun v wr => ∃ (j : Nat) (A' : Option Addr) (c' : Nat), 64 * j ≤ U.length ∧ v = .slice A' (U.drop (64 * j)).length c' ∧ Aside0 ((Kd.int .u8).C wd A' (U.drop (64 * j)).length (U.drop (64 * j))) ∧ Aside0 ((U.drop (64 * j)).length ≤ c') ∧ Aside0 (∀ ad, A' = some ad → ad.block = gt) ∧ Aside0 (Sv w gk gs (foldN kc j H1 U) wr) ∧ Aside0 (wd.grownBy wr (some gs))) (fun v _ => sliceLen v)
              case atStart => exact ⟨0, some ⟨gt, 0, none⟩, c9, by omega, by simp, ⟨by simpa using HC11.out⟩, ⟨by simpa using HCAP.out⟩, ⟨fun ad h => by injection h with h; rw [← h]⟩, HSw, ⟨World.grownBy.refl _ _⟩⟩
              case round =>
                clear HSw HC11 HCAP
                obtain ⟨j, A', c', hj, rfl, HCR, HCP, HAB, HSw, HGR⟩ := hrel
                obtain ⟨R2, hR⟩ : ∃ R, U.drop (64 * j) = R := ⟨_, rfl⟩
                have HRL := Aside0.mk (show R2.length = U.length - 64 * j by rw [← hR, List.length_drop])
                rw [hR] at HCR HCP ⊢
                have HRE := Aside0.mk hR
                have HFL := Aside0.mk (foldN_len kc j H1 U HFL.out)
                clear hR
                by_cases hlt : 0 < R2.length
                · have hlt64 : 64 ≤ R2.length := by have h1 := HRL.out; have h2 := HUM.out; omega
                  have HCw := Aside0.mk (C_grown HCR.out HGR.out (fun ad h => by rw [HAB.out ad h]; exact HGT.out))
                  go_wp2_with (first
                    | (go_at_call 36; (with_reducible refine (take_any wr gs gk _ kc A' c' R2 69 HSw.out.s HFL.out HSw.out.kC HCw.out hlt64).mono ?_); rintro e w3 ⟨rfl, hs3, hg3⟩; have HSw3 := Aside0.mk (HSw.out.take hs3 hg3); have HGR3 := Aside0.mk (grown_trans' HGR.out hg3); clear hs3 hg3)
                    | ((with_reducible refine arm_slice64 (A := A') (n := R2.length) (c := c') ?_ hlt64 ?_); rfl))
                  have hd : U.drop (64 * (j + 1)) = R2.drop 64 := by rw [← HRE.out, List.drop_drop]; rfl
                  have hS : foldN kc (j + 1) H1 U = blkF (foldN kc j H1 U) kc R2 := by rw [foldN_succ, HRE.out]
                  go_roundw
                  case rel =>
                    refine ⟨j + 1, if c' = 64 then A' else A'.map (·.add 64), c' - 64, by have := HRL.out; omega, ?_, ?_, ?_, ?_, ?_, HGR3⟩
                    · rw [hd, List.length_drop]; rfl
                    · rw [hd]; exact ⟨drop64_C HCR.out HCP.out hlt64⟩
                    · rw [hd, List.length_drop]; exact ⟨by have := HCP.out; omega⟩
                    · refine ⟨fun ad h => ?_⟩
                      split at h
                      · exact HAB.out ad h
                      · cases A' with
                        | none => cases h
                        | some a => injection h with h; rw [← h, add_block]; exact HAB.out a rfl
                    · rw [hS]; exact HSw3
                  case measure => show R2.length - 64 < R2.length; omega
                · have hjM : j = U.length / 64 := by have h1 := HRL.out; have h2 := HUM.out; omega
                  obtain ⟨F, hF⟩ : ∃ F, foldN kc j H1 U = F := ⟨_, rfl⟩
                  rw [hF] at HSw HFL
                  have HSUM := Aside0.mk (show sumF l = outN F 8 by rw [HSPL2.out, ← hjM, hF])
                  clear hjM hF
                  obtain ⟨we, rfl⟩ : ∃ we, we = wr := ⟨_, rfl⟩
                  go_wp2_with (first
                    | ((with_reducible refine arm_load (cs := u32s F) (b := gs) ?_ ?_ (range_cs (HSw.out.step (below_alloc (Below.refl _ _) _)).s) Try.underlying69 (by rw [size69, u32s_size, HFL.out]) ?_); rfl; rfl))
                  generalize hW6 : we.alloc _ = w6
                  obtain ⟨g8, hg8⟩ : ∃ g8, g8 = we.heap.size := ⟨_, rfl⟩
                  have HI6 := Aside0.mk (show w6.heap[g8]? = some (.cells (((pad32 (outN F 0)).map (Value.int .u8)).toArray) 23 (0, 0)) by rw [← hW6, hg8]; exact heap_alloc_new we _)
                  have HSw6 := Aside0.mk (show Sv w gk gs F w6 by rw [← hW6]; exact HSw.out.step (below_alloc (Below.refl _ _) _))
                  have HG8 := Aside0.mk (show w.heap.size < g8 by rw [hg8]; exact blk_lt HSw.out.id)
                  rw [← hg8]
                  clear hW6 hg8
                  go_loopw [57] (fun v wr => ∃ n : Nat, n ≤ 8 ∧ v = .int .i64 n ∧ Aside0 (wr.heap[g8]? = some (.cells (((pad32 (outN F n)).map (Value.int .u8)).toArray) 23 (0, 0))) ∧ Aside0 (Below g8 w6 wr)) (fun v _ => (8 - intOf v).toNat)
                  case atStart => exact ⟨0, by omega, rfl, HI6, ⟨Below.refl _ _⟩⟩
                  case round =>
                    clear HI6
                    obtain ⟨n, hn, rfl, HI, HBI⟩ := hrel
                    by_cases hlt : n < 8
                    · have hPL : (pad32 (outN F n)).length = 32 := pad32_len _ (by rw [outN_len]; omega)
                      have hix := index32 (u32s F) n hlt (by rw [u32s_size, HFL.out]) _ (u32s_get F n (by rw [HFL.out]; exact hlt))
                      obtain ⟨xw, hxw⟩ : ∃ x, rd F n = x := ⟨_, rfl⟩
                      rw [hxw] at hix
                      have HPO := Aside0.mk (pad32_out F n hlt xw hxw.symm (4 * n) (4 * n + 1) (4 * n + 2) (4 * n + 3) rfl rfl rfl rfl)
                      have hPL' := hPL
                      clear hxw hPL
                      have HP0 := Aside0.mk (show (4 * n) < (pad32 (outN F n)).length by rw [hPL']; omega)
                      have HP1 := Aside0.mk (show (4 * n + 1) < ((pad32 (outN F n)).set (4 * n) (xw / 16777216 % 256)).length by rw [List.length_set, hPL']; omega)
                      have HP2 := Aside0.mk (show (4 * n + 2) < (((pad32 (outN F n)).set (4 * n) (xw / 16777216 % 256)).set (4 * n + 1) (xw / 65536 % 256)).length by rw [List.length_set, List.length_set, hPL']; omega)
                      have HP3 := Aside0.mk (show (4 * n + 3) < ((((pad32 (outN F n)).set (4 * n) (xw / 16777216 % 256)).set (4 * n + 1) (xw / 65536 % 256)).set (4 * n + 2) (xw / 256 % 256)).length by rw [List.length_set, List.length_set, List.length_set, hPL']; omega)
                      clear hPL'
                      go_wp2_with (first
                        | ((with_reducible refine arm_put8 (g := g8) (p := (4 * n)) (W := wr) (w0 := w6) (t := 23) (B := g8) (L := pad32 (outN F n)) (v := xw / 16777216 % 256) ?_ ?_ HI.out HP0.out HBI.out (Nat.le_refl _) ?_); rfl; rfl; intro X1 hX1 hB1; have HX1 := Aside0.mk hX1; have HXB1 := Aside0.mk hB1; clear hX1 hB1)
                        | ((with_reducible refine arm_put8 (g := g8) (p := (4 * n + 1)) (W := X1) (w0 := w6) (t := 23) (B := g8) (L := (pad32 (outN F n)).set (4 * n) (xw / 16777216 % 256)) (v := xw / 65536 % 256) ?_ ?_ HX1.out HP1.out HXB1.out (Nat.le_refl _) ?_); rfl; rfl; intro X2 hX2 hB2; have HX2 := Aside0.mk hX2; have HXB2 := Aside0.mk hB2; clear hX2 hB2)
                        | ((with_reducible refine arm_put8 (g := g8) (p := (4 * n + 2)) (W := X2) (w0 := w6) (t := 23) (B := g8) (L := ((pad32 (outN F n)).set (4 * n) (xw / 16777216 % 256)).set (4 * n + 1) (xw / 65536 % 256)) (v := xw / 256 % 256) ?_ ?_ HX2.out HP2.out HXB2.out (Nat.le_refl _) ?_); rfl; rfl; intro X3 hX3 hB3; have HX3 := Aside0.mk hX3; have HXB3 := Aside0.mk hB3; clear hX3 hB3)
                        | ((with_reducible refine arm_put8 (g := g8) (p := (4 * n + 3)) (W := X3) (w0 := w6) (t := 23) (B := g8) (L := (((pad32 (outN F n)).set (4 * n) (xw / 16777216 % 256)).set (4 * n + 1) (xw / 65536 % 256)).set (4 * n + 2) (xw / 256 % 256)) (v := xw % 256) ?_ ?_ HX3.out HP3.out HXB3.out (Nat.le_refl _) ?_); rfl; rfl; intro X4 hX4 hB4; have HX4 := Aside0.mk hX4; have HXB4 := Aside0.mk hB4; clear hX4 hB4))
                      rw [HPO.out] at HX4
                      go_roundw
                      case rel => exact ⟨n + 1, by omega, by go_num, HX4, HXB4⟩
                      case measure => simp [intOf]; omega
                    · obtain rfl : n = 8 := by omega
                      have hO : pad32 (outN F 8) = sumF l := by
                        rw [HSUM.out]
                        have h := outN_len F 8
                        unfold pad32
                        rw [h]
                        simp
                      rw [hO] at HI
                      have HID2 := Aside0.mk ((HBI.out.block _ HG8.out).trans HSw6.out.id)
                      have HBW := Aside0.mk (show Below w.heap.size w wr from ⟨HBI.out.os.trans HSw6.out.below.os, HBI.out.tape.trans HSw6.out.below.tape, HBI.out.output.trans HSw6.out.below.output, Nat.le_trans HSw6.out.below.size HBI.out.size, fun j hj => (HBI.out.block j (Nat.lt_trans hj HG8.out)).trans (HSw6.out.below.block j hj)⟩)
                      have HSZ := Aside0.mk (show (Try.prog.info? 23).map (·.size) = some ((sumF l).map (Value.int .u8)).toArray.size by rw [size23]; simp [sumF_len])
                      have HZS := Aside0.mk (show ((List.replicate 32 (0 : Int)).map (Value.int .u8)).toArray.size = ((sumF l).map (Value.int .u8)).toArray.size by simp [sumF_len])
                      have HONE := Aside0.mk (ints_one (sumF l))
                      clear hO
                      go_wp2_with (first
                        | ((with_reducible refine arm_load (cs := ((sumF l).map (Value.int .u8)).toArray) (b := g8) ?_ ?_ (range_cs HI.out) Try.underlying23 HSZ.out ?_); rfl; rfl)
                        | ((with_reducible refine arm_store (b := w.heap.size) (c' := ((sumF l).map (Value.int .u8)).toArray) ?_ ?_ (there_cs HID2.out HZS.out) HSZ.out HONE.out ?_); rfl; rfl))
                      have hfin := setCells_row HID2.out ((sumF l).map (Value.int .u8)).toArray.toList (by simp [sumF_len])
                      rw [Array.toArray_toList (xs := ((sumF l).map (Value.int .u8)).toArray)] at hfin
                      exact bodyPost_ret (v := .agg ((sumF l).map (Value.int .u8)).toArray) (results_cell_row rfl _ _ w.heap.size 23 _ (0, 0) _ rfl hfin Try.underlying23 rfl HSZ.out) rfl ⟨rfl, below_setCells (Nat.le_refl _) _ _ _ HBW.out⟩
end Go.Proofs.Ytcpcellocnojcaa

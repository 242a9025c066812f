import Derived.Test.YtcpcellocnojcaaTakeN
import Derived.Test.YtcpcellocnojcaaArms
import Derived.StillTailTactics
import Derived.BigRegion
namespace Go.Proofs.Ytcpcellocnojcaa
open Go Go.RowKit Go.Proofs.YtcpcellocnojcaaW.PrintWords
set_option linter.unusedVariables false
set_option linter.unusedSimpArgs false

set_option maxHeartbeats 4000000 in
set_option maxRecDepth 20000 in
theorem take_any (w : World) (gs gk : Nat) (H k : List Int) (A : Option Addr) (c : Nat) (l : List Int) (ts : TypeId)
    (hs : w.heap[gs]? = some (.cells (u32s H) ts (0, 0))) (hh : H.length = 8) (hk : (Kd.int .u32).C w (some ⟨gk, 0, none⟩) 64 k)
    (hb : (Kd.int .u8).C w A l.length l) (hl : 64 ≤ l.length) :
    Calls Try.prog 36 #[.pointer (some ⟨gs, 0, none⟩), .slice A l.length c, .pointer (some ⟨gk, 0, none⟩)] w fun e w' => e = .returned (.tuple #[]) ∧ w'.heap[gs]? = some (.cells (u32s (blkF H k l)) ts (0, 0)) ∧ w.grownBy w' (some gs) := by
  have HS := Aside0.mk hs
  have HK := Aside0.mk hk
  have HB := Aside0.mk hb
  have HH := Aside0.mk hh
  clear hs hk hb hh
  obtain ⟨ad, rfl, _⟩ := at_nat HB.out 0 (by omega)
  go_enter Try.func36, Try.ntmps36
  go_wp2
  generalize hW : w.alloc _ = W1
  have HW1 := Aside0.mk (show W1.heap[w.heap.size]? = some (.cells (u32s (pad64 [])) 98 (0, 0)) by rw [← hW]; exact heap_alloc_new w _)
  have HB1 := Aside0.mk (show Below w.heap.size w W1 by rw [← hW]; exact below_alloc (Below.refl _ _) _)
  clear hW
  go_loopw [20] (fun v wr => ∃ i : Nat, i ≤ 16 ∧ v = .int .i64 i ∧ Aside0 (wr.heap[w.heap.size]? = some (.cells (u32s (pad64 (wordsN l i))) 98 (0, 0))) ∧ Aside0 (Below w.heap.size w wr)) (fun v _ => (16 - intOf v).toNat)
  case atStart => exact ⟨0, by omega, rfl, ⟨HW1.out⟩, HB1⟩
  case round =>
    clear HW1 HB1
    obtain ⟨i, hi, rfl, HW, HBW⟩ := hrel
    by_cases hlt : i < 16
    · obtain ⟨p0, hp0⟩ : ∃ p0, p0 = 4 * i := ⟨_, rfl⟩
      obtain ⟨p1, hp1⟩ : ∃ p, p = 4 * i + 1 := ⟨_, rfl⟩
      obtain ⟨p2, hp2⟩ : ∃ p, p = 4 * i + 2 := ⟨_, rfl⟩
      obtain ⟨p3, hp3⟩ : ∃ p, p = 4 * i + 3 := ⟨_, rfl⟩
      have hw0 : IntKind.i64.wrap (4 * (i : Int)) = (p0 : Int) := by rw [IntKind.wrap_i64]; omega
      have hw1 : IntKind.i64.wrap ((p0 : Int) + 1) = (p1 : Int) := by rw [IntKind.wrap_i64]; omega
      have hw2 : IntKind.i64.wrap ((p0 : Int) + 2) = (p2 : Int) := by rw [IntKind.wrap_i64]; omega
      have hw3 : IntKind.i64.wrap ((p0 : Int) + 3) = (p3 : Int) := by rw [IntKind.wrap_i64]; omega
      have hl0 : (p0 : Int) < l.length := by omega
      have hl1 : (p1 : Int) < l.length := by omega
      have hl2 : (p2 : Int) < l.length := by omega
      have hl3 : (p3 : Int) < l.length := by omega
      have hi64 : (i : Int) < 64 := by omega
      obtain ⟨ad0, e0, hx0⟩ := at_nat (Kd.C_below HB.out HBW.out) p0 (by omega)
      obtain ⟨ad1, e1, hx1⟩ := at_nat (Kd.C_below HB.out HBW.out) p1 (by omega)
      obtain ⟨ad2, e2, hx2⟩ := at_nat (Kd.C_below HB.out HBW.out) p2 (by omega)
      obtain ⟨ad3, e3, hx3⟩ := at_nat (Kd.C_below HB.out HBW.out) p3 (by omega)
      injection e0 with e0
      injection e1 with e1
      injection e2 with e2
      injection e3 with e3
      subst e0 e1 e2 e3
      obtain ⟨b0, hb0⟩ : ∃ b, rd l (p0 : Nat) = b := ⟨_, rfl⟩
      obtain ⟨b1, hb1⟩ : ∃ b, rd l (p1 : Nat) = b := ⟨_, rfl⟩
      obtain ⟨b2, hb2⟩ : ∃ b, rd l (p2 : Nat) = b := ⟨_, rfl⟩
      obtain ⟨b3, hb3⟩ : ∃ b, rd l (p3 : Nat) = b := ⟨_, rfl⟩
      rw [hb0] at hx0
      rw [hb1] at hx1
      rw [hb2] at hx2
      rw [hb3] at hx3
      have hq : (wr.cell? ⟨w.heap.size, i, none⟩).isSome = true := by
        rw [u32_cell HW.out i (by rw [pad64_len _ (by rw [wordsN_len]; omega)]; omega)]; rfl
      obtain ⟨o, ho⟩ := Option.isSome_iff_exists.1 hq
      have hf : wr.frozen? ⟨w.heap.size, i, none⟩ = false := blk_frozen HW.out i
      have HP := Aside0.mk hp0
      have HP1 := Aside0.mk hp1
      have HP2 := Aside0.mk hp2
      have HP3 := Aside0.mk hp3
      have HE0 := Aside0.mk hb0
      have HE1 := Aside0.mk hb1
      have HE2 := Aside0.mk hb2
      have HE3 := Aside0.mk hb3
      clear hp0 hp1 hp2 hp3 hb0 hb1 hb2 hb3 hq
      go_wp2_with fail
      go_still_tail 34, (by kernel_rfl)
      have HW := Aside0.mk (show wr.drew.heap[w.heap.size]? = _ from HW.out)
      have HBW := Aside0.mk (below_drew1 HBW.out)
      have ho : wr.drew.cell? ⟨w.heap.size, i, none⟩ = some o := ho
      have hf : wr.drew.frozen? ⟨w.heap.size, i, none⟩ = false := hf
      change wpList _ _ _ _ _ wr.drew
      generalize wr.drew = w2 at *
      go_wp2
      go_roundw
      case rel =>
        refine ⟨i + 1, by omega, by go_num, ⟨?_⟩, ⟨HBW.out.setCell (p := ⟨w.heap.size, i, none⟩) (Nat.le_refl _) _⟩⟩
        rw [heap_setCell_same w2 _ _ _ 98 _ HW.out, u32s_set]
        have e : (pad64 (wordsN l i)).set i (wordAt l i) = pad64 (wordsN l i ++ [wordAt l i]) := by
          have := pad64_set (wordsN l i) (wordAt l i) (by rw [wordsN_len]; omega)
          rw [wordsN_len] at this
          exact this
        rw [show wordsN l (i + 1) = wordsN l i ++ [wordAt l i] from rfl, ← e]
        have e2 : wordAt l i = wordOf b0 b1 b2 b3 := by
          rw [← HE0.out, ← HE1.out, ← HE2.out, ← HE3.out, HP.out, HP1.out, HP2.out, HP3.out]; rfl
        rw [e2]
        rfl
      case measure => simp [intOf]; omega
    · have hi16 : i = 16 := by omega
      obtain ⟨W16, hW16⟩ : ∃ W, wordsN l i = W := ⟨_, rfl⟩
      have HL16 := Aside0.mk (show W16.length = 16 by rw [← hW16, wordsN_len, hi16])
      have HE16 := Aside0.mk (show wordsN l 16 = W16 by rw [← hi16]; exact hW16)
      clear hi16
      obtain ⟨i0, rfl⟩ : ∃ i0, i0 = i := ⟨_, rfl⟩
      rw [hW16] at HW
      clear hW16
      go_wp2_with fail
      go_loopw [8] (fun v wr => ∃ n : Nat, n ≤ 48 ∧ v = .int .i64 ((16 + n : Nat) : Int) ∧ Aside0 (wr.heap[w.heap.size]? = some (.cells (u32s (pad64 (sched W16 n))) 98 (0, 0))) ∧ Aside0 (Below w.heap.size w wr)) (fun v _ => (64 - intOf v).toNat)
      case atStart => exact ⟨0, by omega, rfl, ⟨HW.out⟩, HBW⟩
      case round =>
        clear HW HBW
        obtain ⟨n, hn, rfl, HW, HBW⟩ := hrel
        by_cases hlt : n < 48
        · obtain ⟨i, hi⟩ : ∃ i, i = 16 + n := ⟨_, rfl⟩
          rw [← hi]
          have HLS := Aside0.mk (show (sched W16 n).length = i by rw [sched_len, HL16.out, hi])
          obtain ⟨S, hS⟩ : ∃ S, sched W16 n = S := ⟨_, rfl⟩
          rw [hS] at HW HLS
          have HS' := Aside0.mk hS
          obtain ⟨p15, hp15⟩ : ∃ p, p = i - 15 := ⟨_, rfl⟩
          obtain ⟨p2, hp2⟩ : ∃ p, p = i - 2 := ⟨_, rfl⟩
          obtain ⟨p7, hp7⟩ : ∃ p, p = i - 7 := ⟨_, rfl⟩
          obtain ⟨p16, hp16⟩ : ∃ p, p = i - 16 := ⟨_, rfl⟩
          have hw0 : IntKind.i64.wrap ((i : Int) - 15) = (p15 : Int) := by rw [IntKind.wrap_i64]; omega
          have hw1 : IntKind.i64.wrap ((i : Int) - 2) = (p2 : Int) := by rw [IntKind.wrap_i64]; omega
          have hw2 : IntKind.i64.wrap ((i : Int) - 7) = (p7 : Int) := by rw [IntKind.wrap_i64]; omega
          have hw3 : IntKind.i64.wrap ((i : Int) - 16) = (p16 : Int) := by rw [IntKind.wrap_i64]; omega
          have hl0 : (p15 : Int) < 64 := by omega
          have hl1 : (p2 : Int) < 64 := by omega
          have hl2 : (p7 : Int) < 64 := by omega
          have hl3 : (p16 : Int) < 64 := by omega
          have hi64 : (i : Int) < 64 := by omega
          have hcell : ∀ p, p < i → wr.cell? ⟨w.heap.size, p, none⟩ = some (.int .u32 (rd S p)) := fun p hp => by
            rw [u32_cell HW.out p (by rw [pad64_len _ (by rw [HLS.out]; omega)]; omega), rd_pad _ _ (by rw [HLS.out]; exact hp)]
          have hx15 := hcell p15 (by omega)
          have hx2 := hcell p2 (by omega)
          have hx7 := hcell p7 (by omega)
          have hx16 := hcell p16 (by omega)
          have hq : (wr.cell? ⟨w.heap.size, i, none⟩).isSome = true := by
            rw [u32_cell HW.out i (by rw [pad64_len _ (by rw [HLS.out]; omega)]; omega)]; rfl
          obtain ⟨o, ho⟩ := Option.isSome_iff_exists.1 hq
          have hf : wr.frozen? ⟨w.heap.size, i, none⟩ = false := blk_frozen HW.out i
          obtain ⟨b15, hb15⟩ : ∃ b, rd S (p15 : Nat) = b := ⟨_, rfl⟩
          obtain ⟨b2, hb2⟩ : ∃ b, rd S (p2 : Nat) = b := ⟨_, rfl⟩
          obtain ⟨b7, hb7⟩ : ∃ b, rd S (p7 : Nat) = b := ⟨_, rfl⟩
          obtain ⟨b16, hb16⟩ : ∃ b, rd S (p16 : Nat) = b := ⟨_, rfl⟩
          rw [hb15] at hx15
          rw [hb2] at hx2
          rw [hb7] at hx7
          rw [hb16] at hx16
          have hif : (i : Int) < 64 := by omega
          have HNX := Aside0.mk (show nextW S = (sig1 b2 + b7 + sig0 b15 + b16) % 4294967296 by
            unfold nextW
            rw [HLS.out, ← hp15, ← hp2, ← hp7, ← hp16, hb15, hb2, hb7, hb16])
          have HI := Aside0.mk hi
          clear hb15 hb2 hb7 hb16 hp15 hp2 hp7 hp16 hcell hq hS hi
          go_wp2_with fail
          go_quiet (fail)
          go_wp2_with (first
            | (go_at_call 49; (with_reducible refine (rot7 _ _).mono ?_); rintro e w1 ⟨rfl, rfl⟩)
            | (go_at_call 49; (with_reducible refine (rot18 _ _).mono ?_); rintro e w1 ⟨rfl, rfl⟩)
            | (go_at_call 49; (with_reducible refine (rot17 _ _).mono ?_); rintro e w1 ⟨rfl, rfl⟩)
            | (go_at_call 49; (with_reducible refine (rot19 _ _).mono ?_); rintro e w1 ⟨rfl, rfl⟩))
          have HW := Aside0.mk (show (wr.drewN nq).heap[w.heap.size]? = _ from HW.out)
          have HBW := Aside0.mk (pw_below_drewN HBW.out nq)
          have ho : (wr.drewN nq).cell? ⟨w.heap.size, i, none⟩ = some o := ho
          have hf : (wr.drewN nq).frozen? ⟨w.heap.size, i, none⟩ = false := hf
          have hx7 : (wr.drewN nq).cell? ⟨w.heap.size, p7, none⟩ = _ := hx7
          have hx16 : (wr.drewN nq).cell? ⟨w.heap.size, p16, none⟩ = _ := hx16
          generalize wr.drewN nq = wq at *
          go_still_tail 14, (by kernel_rfl)
          have HW := Aside0.mk (show wq.drew.heap[w.heap.size]? = _ from HW.out)
          have HBW := Aside0.mk (below_drew1 HBW.out)
          have ho : wq.drew.cell? ⟨w.heap.size, i, none⟩ = some o := ho
          have hf : wq.drew.frozen? ⟨w.heap.size, i, none⟩ = false := hf
          change wpList _ _ _ _ _ wq.drew
          generalize wq.drew = w2 at *
          go_wp2
          go_roundw
          case rel =>
            refine ⟨n + 1, by omega, ?_, ⟨?_⟩, ⟨HBW.out.setCell (p := ⟨w.heap.size, i, none⟩) (Nat.le_refl _) _⟩⟩
            · rw [HI.out]; go_num
            rw [heap_setCell_same w2 _ _ _ 98 _ HW.out, u32s_set]
            have e : (pad64 S).set i (nextW S) = pad64 (S ++ [nextW S]) := by
              have := pad64_set S (nextW S) (by rw [HLS.out]; omega)
              rw [HLS.out] at this
              exact this
            rw [show sched W16 (n + 1) = sched W16 n ++ [nextW (sched W16 n)] from rfl, HS'.out, ← e, HNX.out]
            rfl
          case measure => simp [intOf]; omega
        · have hn48 : n = 48 := by omega
          obtain ⟨S, hS⟩ : ∃ S, sched W16 n = S := ⟨_, rfl⟩
          have HLS := Aside0.mk (show S.length = 64 by rw [← hS, sched_len, HL16.out, hn48])
          have HSE := Aside0.mk (show sched (wordsN l 16) 48 = S by rw [HE16.out, ← hn48]; exact hS)
          rw [hS] at HW
          have HWS := Aside0.mk (show wr.heap[w.heap.size]? = some (.cells (u32s S) 98 (0, 0)) by
            have : pad64 S = S := by unfold pad64; rw [HLS.out]; simp
            rw [this] at HW; exact HW.out)
          clear hn48 hS HW HE16
          obtain ⟨i1, rfl⟩ : ∃ i1, i1 = n := ⟨_, rfl⟩
          have HH8 := Aside0.mk (show (Try.prog.info? 69).map (·.size) = some (u32s H).size by rw [size69, u32s_size, HH.out])
          have HSW := Aside0.mk (show wr.heap[gs]? = some (.cells (u32s H) ts (0, 0)) from (HBW.out.block gs (blk_lt HS.out)).trans HS.out)
          obtain ⟨gv, hgv⟩ : ∃ gv, gv = wr.heap.size := ⟨_, rfl⟩
          have HGV := Aside0.mk hgv
          have HGL := Aside0.mk (show w.heap.size < gv by rw [hgv]; exact blk_lt HWS.out)
          have HZ8 := Aside0.mk (show ((u32s H).all (·.oneCell')) = true from u32s_one H)
          have HZS := Aside0.mk (show (u32s (List.replicate 8 0)).size = (u32s H).size by rw [u32s_size, u32s_size, HH.out]; rfl)
          clear hgv
          go_wp2_with (first
            | ((with_reducible refine arm_load (cs := u32s H) (b := gs) ?_ ?_ (range_cs HSW.out) Try.underlying69 HH8.out ?_); rfl; rfl)
            | ((with_reducible refine arm_store_new (ty := 69) (c' := u32s H) ?_ ?_ HH8.out ?_ HZ8.out ?_); rfl; rfl; exact HZS.out))
          generalize hW5 : wr.alloc _ = W5
          have HV5 := Aside0.mk (show W5.heap[gv]? = some (.cells (u32s H) 69 (0, 0)) by rw [← hW5, HGV.out]; exact heap_alloc_new wr _)
          have HB5 := Aside0.mk (show Below w.heap.size w W5 by rw [← hW5]; exact below_alloc HBW.out _)
          have HW5 := Aside0.mk (show W5.heap[w.heap.size]? = some (.cells (u32s S) 98 (0, 0)) by rw [← hW5, heap_alloc_old _ _ (by have := HGL.out; rw [HGV.out] at this; exact this)]; exact HWS.out)
          clear hW5
          rw [← HGV.out]
          have HGK := Aside0.mk (show (Kd.int .u32).C W5 (some ⟨gk, 0, none⟩) 64 k from Kd.C_below HK.out HB5.out)
          go_loopw [105] (fun v wr => ∃ n : Nat, n ≤ 64 ∧ v = .int .i64 n ∧ Aside0 (wr.heap[gv]? = some (.cells (u32s (rnds k S H n)) 69 (0, 0))) ∧ Aside0 (Below gv W5 wr)) (fun v _ => (64 - intOf v).toNat)
          case atStart => exact ⟨0, by omega, rfl, HV5, ⟨Below.refl _ _⟩⟩
          case round =>
            clear HV5 HBW HSW HWS HGK
            obtain ⟨n, hn, rfl, HV, HBV⟩ := hrel
            have HVL := Aside0.mk (rnds_len k S H HH.out n)
            by_cases hlt : n < 64
            · obtain ⟨V, hV⟩ : ∃ V, rnds k S H n = V := ⟨_, rfl⟩
              rw [hV] at HV HVL
              have HVE := Aside0.mk hV
              have hn64 : (n : Int) < 64 := by omega
              have hv0 : wr.cell? ⟨gv, 0, none⟩ = some (.int .u32 (rd V 0)) := u32_cell HV.out 0 (by rw [HVL.out]; decide)
              have hv1 : wr.cell? ⟨gv, 1, none⟩ = some (.int .u32 (rd V 1)) := u32_cell HV.out 1 (by rw [HVL.out]; decide)
              have hv2 : wr.cell? ⟨gv, 2, none⟩ = some (.int .u32 (rd V 2)) := u32_cell HV.out 2 (by rw [HVL.out]; decide)
              have hv4 : wr.cell? ⟨gv, 4, none⟩ = some (.int .u32 (rd V 4)) := u32_cell HV.out 4 (by rw [HVL.out]; decide)
              have hv5 : wr.cell? ⟨gv, 5, none⟩ = some (.int .u32 (rd V 5)) := u32_cell HV.out 5 (by rw [HVL.out]; decide)
              have hv6 : wr.cell? ⟨gv, 6, none⟩ = some (.int .u32 (rd V 6)) := u32_cell HV.out 6 (by rw [HVL.out]; decide)
              have hv7 : wr.cell? ⟨gv, 7, none⟩ = some (.int .u32 (rd V 7)) := u32_cell HV.out 7 (by rw [HVL.out]; decide)
              have hw : wr.cell? ⟨w.heap.size, n, none⟩ = some (.int .u32 (rd S n)) := by
                rw [World.cell?_of_block (a := ⟨w.heap.size, n, none⟩) (HBV.out.block w.heap.size HGL.out)]
                exact u32_cell HW5.out n (by rw [HLS.out]; exact hlt)
              have hk : wr.cell? ⟨gk, n, none⟩ = some (.int .u32 (rd k n)) := by
                obtain ⟨ad', e, hx⟩ := at_nat (Kd.C_below HK.out HB5.out) n hlt
                injection e with e
                subst e
                rw [add_plain] at hx
                rw [← hx]
                exact World.cell?_of_block (a := ⟨gk, n, none⟩) (HBV.out.block gk (by
                  obtain ⟨ad'', e2, hx2⟩ := at_nat HK.out n hlt
                  injection e2 with e2
                  subst e2
                  have := World.block_lt_of_cell? w _ hx2
                  have h2 := HGL.out
                  rw [add_block] at this
                  exact Nat.lt_trans this h2))
              obtain ⟨v0, hv0'⟩ : ∃ b, rd V 0 = b := ⟨_, rfl⟩
              obtain ⟨v1, hv1'⟩ : ∃ b, rd V 1 = b := ⟨_, rfl⟩
              obtain ⟨v2, hv2'⟩ : ∃ b, rd V 2 = b := ⟨_, rfl⟩
              obtain ⟨v4, hv4'⟩ : ∃ b, rd V 4 = b := ⟨_, rfl⟩
              obtain ⟨v5, hv5'⟩ : ∃ b, rd V 5 = b := ⟨_, rfl⟩
              obtain ⟨v6, hv6'⟩ : ∃ b, rd V 6 = b := ⟨_, rfl⟩
              obtain ⟨v7, hv7'⟩ : ∃ b, rd V 7 = b := ⟨_, rfl⟩
              obtain ⟨kn, hkn⟩ : ∃ b, rd k n = b := ⟨_, rfl⟩
              obtain ⟨sn, hsn⟩ : ∃ b, rd S n = b := ⟨_, rfl⟩
              rw [hv0'] at hv0
              rw [hv1'] at hv1
              rw [hv2'] at hv2
              rw [hv4'] at hv4
              rw [hv5'] at hv5
              rw [hv6'] at hv6
              rw [hv7'] at hv7
              rw [hkn] at hk
              rw [hsn] at hw
              have HVQ := Aside0.mk (show rd V 0 = v0 ∧ rd V 1 = v1 ∧ rd V 2 = v2 ∧ rd V 4 = v4 ∧ rd V 5 = v5 ∧ rd V 6 = v6 ∧ rd V 7 = v7 from ⟨hv0', hv1', hv2', hv4', hv5', hv6', hv7'⟩)
              have HKS := Aside0.mk (show rd k n = kn ∧ rd S n = sn from ⟨hkn, hsn⟩)
              clear hv0' hv1' hv2' hv4' hv5' hv6' hv7' hkn hsn hV
              go_wp2_with fail
              go_quiet (fail)
              have hv0 : (wr.drewN nq).cell? ⟨gv, 0, none⟩ = _ := hv0
              have hv1 : (wr.drewN nq).cell? ⟨gv, 1, none⟩ = _ := hv1
              have hv2 : (wr.drewN nq).cell? ⟨gv, 2, none⟩ = _ := hv2
              have hv4 : (wr.drewN nq).cell? ⟨gv, 4, none⟩ = _ := hv4
              have hv5 : (wr.drewN nq).cell? ⟨gv, 5, none⟩ = _ := hv5
              have hv6 : (wr.drewN nq).cell? ⟨gv, 6, none⟩ = _ := hv6
              have hv7 : (wr.drewN nq).cell? ⟨gv, 7, none⟩ = _ := hv7
              have hw : (wr.drewN nq).cell? ⟨w.heap.size, n, none⟩ = _ := hw
              have hk : (wr.drewN nq).cell? ⟨gk, n, none⟩ = _ := hk
              have HV := Aside0.mk (show (wr.drewN nq).heap[gv]? = _ from HV.out)
              have HBV := Aside0.mk (show Below gv W5 (wr.drewN nq) from pw_below_drewN HBV.out _)
              generalize wr.drewN nq = wq1 at *
              go_wp2_with fail
              go_quiet (first | (go_at_call 50; exact Calls.quiet_of_same (turnEq _ _)))
              have hv0 : (wq1.drewN nq).cell? ⟨gv, 0, none⟩ = _ := hv0
              have hv1 : (wq1.drewN nq).cell? ⟨gv, 1, none⟩ = _ := hv1
              have hv2 : (wq1.drewN nq).cell? ⟨gv, 2, none⟩ = _ := hv2
              have hv4 : (wq1.drewN nq).cell? ⟨gv, 4, none⟩ = _ := hv4
              have hv5 : (wq1.drewN nq).cell? ⟨gv, 5, none⟩ = _ := hv5
              have hv6 : (wq1.drewN nq).cell? ⟨gv, 6, none⟩ = _ := hv6
              have hv7 : (wq1.drewN nq).cell? ⟨gv, 7, none⟩ = _ := hv7
              have hw : (wq1.drewN nq).cell? ⟨w.heap.size, n, none⟩ = _ := hw
              have hk : (wq1.drewN nq).cell? ⟨gk, n, none⟩ = _ := hk
              have HV := Aside0.mk (show (wq1.drewN nq).heap[gv]? = _ from HV.out)
              have HBV := Aside0.mk (show Below gv W5 (wq1.drewN nq) from pw_below_drewN HBV.out _)
              generalize wq1.drewN nq = wq2 at *
              go_wp2_with fail
              go_quiet (first | (go_at_call 50; exact Calls.quiet_of_same (turnAq _ _)))
              have hv0 : (wq2.drewN nq).cell? ⟨gv, 0, none⟩ = _ := hv0
              have hv1 : (wq2.drewN nq).cell? ⟨gv, 1, none⟩ = _ := hv1
              have hv2 : (wq2.drewN nq).cell? ⟨gv, 2, none⟩ = _ := hv2
              have hv4 : (wq2.drewN nq).cell? ⟨gv, 4, none⟩ = _ := hv4
              have hv5 : (wq2.drewN nq).cell? ⟨gv, 5, none⟩ = _ := hv5
              have hv6 : (wq2.drewN nq).cell? ⟨gv, 6, none⟩ = _ := hv6
              have hv7 : (wq2.drewN nq).cell? ⟨gv, 7, none⟩ = _ := hv7
              have hw : (wq2.drewN nq).cell? ⟨w.heap.size, n, none⟩ = _ := hw
              have hk : (wq2.drewN nq).cell? ⟨gk, n, none⟩ = _ := hk
              have HV := Aside0.mk (show (wq2.drewN nq).heap[gv]? = _ from HV.out)
              have HBV := Aside0.mk (show Below gv W5 (wq2.drewN nq) from pw_below_drewN HBV.out _)
              generalize wq2.drewN nq = wq3 at *
              go_wp2_with fail
              obtain ⟨x0, x1, x2, x3, x4, x5, x6, x7, hVV⟩ := eight V HVL.out
              rw [hVV] at HV
              have HV := Aside0.mk (show wq3.drew.heap[gv]? = _ from HV.out)
              have HBV := Aside0.mk (below_drew1 HBV.out)
              have HVV := Aside0.mk hVV
              have HST' := Aside0.mk (show rndStep V kn sn = [(addE x4 x5 x6 x7 kn sn + addA x0 x1 x2) % 4294967296, x0, x1, x2, (x3 + addE x4 x5 x6 x7 kn sn) % 4294967296, x4, x5, x6] by rw [hVV]; exact rndStep8 _ _ _ _ _ _ _ _ _ _)
              have HVS := Aside0.mk (show v0 = x0 ∧ v1 = x1 ∧ v2 = x2 ∧ v4 = x4 ∧ v5 = x5 ∧ v6 = x6 ∧ v7 = x7 by
                have := HVQ.out
                rw [hVV] at this
                exact ⟨this.1.symm, this.2.1.symm, this.2.2.1.symm, this.2.2.2.1.symm, this.2.2.2.2.1.symm, this.2.2.2.2.2.1.symm, this.2.2.2.2.2.2.symm⟩)
              clear hVV
              go_region_law (first
                | (refine step_copy8 (x := .tmp 156) (y := .tmp 157) (by rfl) rfl rfl rfl (fun ty => copy8 wq3.drew gv 69 ty x0 x1 x2 x3 x4 x5 x6 x7 HV.out) ?_))
              have HV6 := Aside0.mk (show (wq3.drew.setCells gv 1 [Value.int .u32 x0, Value.int .u32 x1, Value.int .u32 x2, Value.int .u32 x3, Value.int .u32 x4, Value.int .u32 x5, Value.int .u32 x6]).heap[gv]? = some (.cells (u32s [x0, x0, x1, x2, x3, x4, x5, x6]) 69 (0, 0)) from setCells_u32 [x0, x1, x2, x3, x4, x5, x6] 1 _ _ HV.out)
              have HB6 := Aside0.mk (below_setCells (Nat.le_refl gv) [Value.int .u32 x0, Value.int .u32 x1, Value.int .u32 x2, Value.int .u32 x3, Value.int .u32 x4, Value.int .u32 x5, Value.int .u32 x6] 1 _ HBV.out)
              generalize wq3.drew.setCells gv 1 _ = W6 at *
              have hc4 : W6.cell? ⟨gv, 4, none⟩ = some (.int .u32 x3) := u32_cell HV6.out 4 (by show 4 < 8; decide)
              have hc0 : W6.cell? ⟨gv, 0, none⟩ = some (.int .u32 x0) := u32_cell HV6.out 0 (by show 0 < 8; decide)
              have hf4 : W6.frozen? ⟨gv, 4, none⟩ = false := blk_frozen HV6.out 4
              have hf0 : W6.frozen? ⟨gv, 0, none⟩ = false := blk_frozen HV6.out 0
              go_wp2
              go_roundw
              case rel =>
                refine ⟨n + 1, by omega, by go_num, ⟨?_⟩, ⟨(HB6.out.setCell (p := ⟨gv, 4, none⟩) (Nat.le_refl _) _).setCell (p := ⟨gv, 0, none⟩) (Nat.le_refl _) _⟩⟩
                rw [heap_setCell_same _ gv _ _ 69 _ (heap_setCell_same W6 gv _ _ 69 _ HV6.out), u32s_set, u32s_set]
                rw [show rnds k S H (n + 1) = rndStep (rnds k S H n) (rd k n) (rd S n) from rfl, HVE.out, HKS.out.1, HKS.out.2, HST'.out]
                obtain ⟨rfl, rfl, rfl, rfl, rfl, rfl, rfl⟩ := HVS.out
                rfl
              case measure => simp [intOf]; omega
            · have hn64 : n = 64 := by omega
              obtain ⟨V, hV⟩ : ∃ V, rnds k S H n = V := ⟨_, rfl⟩
              rw [hV] at HV HVL
              have HF := Aside0.mk (show addTo H V 8 = blkF H k l by
                unfold blkF
                rw [HSE.out, ← hn64, hV])
              have HBE := Aside0.mk (show Below w.heap.size w wr from ⟨HBV.out.os.trans HB5.out.os, HBV.out.tape.trans HB5.out.tape, HBV.out.output.trans HB5.out.output, Nat.le_trans HB5.out.size HBV.out.size, fun j hj => (HBV.out.block j (Nat.lt_trans hj HGL.out)).trans (HB5.out.block j hj)⟩)
              have HSE2 := Aside0.mk (show wr.heap[gs]? = some (.cells (u32s H) ts (0, 0)) from (HBE.out.block gs (blk_lt HS.out)).trans HS.out)
              have HNE := Aside0.mk (show gs ≠ gv by have h1 := blk_lt HS.out; have h2 := HGL.out; omega)
              clear hn64 hV HBV
              obtain ⟨we, rfl⟩ : ∃ we, we = wr := ⟨_, rfl⟩
              obtain ⟨i2, rfl⟩ : ∃ i2, i2 = n := ⟨_, rfl⟩
              go_wp2_with fail
              go_loopw [169] (fun v wr => ∃ n : Nat, n ≤ 8 ∧ v = .int .i64 n ∧ Aside0 (wr.heap[gs]? = some (.cells (u32s (addTo H V n)) ts (0, 0))) ∧ Aside0 (we.grownBy wr (some gs))) (fun v _ => (8 - intOf v).toNat)
              case atStart => exact ⟨0, by omega, rfl, HSE2, ⟨World.grownBy.refl _ _⟩⟩
              case round =>
                obtain ⟨n, hn, rfl, HX, HGR⟩ := hrel
                by_cases hlt : n < 8
                · have hn8 : (n : Int) < 8 := by omega
                  have HXL := Aside0.mk (show (addTo H V n).length = 8 by rw [addTo_len, HH.out])
                  have hx : wr.cell? ⟨gs, n, none⟩ = some (.int .u32 (rd H n)) := by
                    rw [u32_cell HX.out n (by rw [HXL.out]; exact hlt), addTo_rd _ _ _ _ (Nat.le_refl _)]
                  have hv : wr.cell? ⟨gv, n, none⟩ = some (.int .u32 (rd V n)) := by
                    rw [World.cell?_of_block (a := ⟨gv, n, none⟩) (HGR.out.block gv (blk_lt HV.out) (fun e => HNE.out (by injection e with e; exact e.symm)))]
                    exact u32_cell HV.out n (by rw [HVL.out]; exact hlt)
                  have hf : wr.frozen? ⟨gs, n, none⟩ = false := blk_frozen HX.out n
                  obtain ⟨a, ha⟩ : ∃ b, rd H n = b := ⟨_, rfl⟩
                  obtain ⟨b, hb⟩ : ∃ b, rd V n = b := ⟨_, rfl⟩
                  rw [ha] at hx
                  rw [hb] at hv
                  have HAB := Aside0.mk (show addTo H V (n + 1) = (addTo H V n).set n ((a + b) % 4294967296) by rw [← ha, ← hb]; rfl)
                  clear ha hb
                  go_wp2_with fail
                  go_still_tail 10, (by kernel_rfl)
                  have HX := Aside0.mk (show wr.drew.heap[gs]? = _ from HX.out)
                  have HGR := Aside0.mk (grown_drew HGR.out)
                  have hx : wr.drew.cell? ⟨gs, n, none⟩ = _ := hx
                  have hf : wr.drew.frozen? ⟨gs, n, none⟩ = false := hf
                  change wpList _ _ _ _ _ wr.drew
                  generalize wr.drew = w2 at *
                  go_wp2
                  go_roundw
                  case rel =>
                    refine ⟨n + 1, by omega, by go_num, ⟨?_⟩, ⟨grown_trans' HGR.out (grown_set _ _ _ _)⟩⟩
                    rw [heap_setCell_same w2 _ _ _ ts _ HX.out, u32s_set, HAB.out]
                  case measure => simp [intOf]; omega
                · obtain rfl : n = 8 := by omega
                  rw [HF.out] at HX
                  go_wp2
                  go_end0
                  exact ⟨rfl, HX.out, grown_trans' ⟨HBE.out.os, HBE.out.tape, HBE.out.output, HBE.out.size, fun j hj _ => HBE.out.block j hj⟩ HGR.out⟩
end Go.Proofs.Ytcpcellocnojcaa

/- 'ShaNamed': the walk. No condition. -/
import Derived.Test.YtcpcellocnojcaaParts
namespace Go.Proofs.Ytcpcellocnojcaa
open Go Go.RowKit Go.Proofs.YtcpcellocnojcaaW.PrintWords
set_option linter.unusedVariables false
set_option linter.unusedSimpArgs false

theorem sameBytes_any (A0 : Option Addr) (c0 : Nat) (l0 : List Int) (A1 : Option Addr) (c1 : Nat) (l1 : List Int) (w : World) (hr0 : Kd.C (Kd.int .u8) w A0 l0.length l0) (hr1 : Kd.C (Kd.int .u8) w A1 l1.length l1) :
    Calls Try.prog 26 #[.slice A0 l0.length c0, .slice A1 l1.length c1] w fun e w' => e = .returned (.bool (decide (l0 = l1))) ∧ Drawn0 w w' := by
  have HR0 := Aside0.mk hr0
  have HR1 := Aside0.mk hr1
  have hl0 := C_len hr0
  clear hr0 hr1
  by_cases hl : l0.length = l1.length
  · have hlb : ((l0.length : Int) != (l1.length : Int)) = false := by rw [hl]; simp
    have HL := Aside0.mk hl
    clear hl
    go_enter Try.func26, Try.ntmps26
    go_wp2
    go_loopw [5] (fun i wr => ∃ k : Nat, k ≤ l0.length ∧ i = .int .i64 k ∧ Aside0 (l0.take k = l1.take k) ∧ Drawn0 w wr) (fun i _ => l0.length - (intOf i).toNat)
    case atStart => exact ⟨0, by omega, rfl, ⟨rfl⟩, Drawn0.refl _⟩
    case round =>
      obtain ⟨k, hkl, rfl, HT, ⟨nn, rfl⟩⟩ := hrel
      by_cases hk : k < l0.length
      · have hk1 : k < l1.length := HL.out ▸ hk
        obtain ⟨ad0, rfl, hx0⟩ := at_nat HR0.out k hk
        obtain ⟨ad1, rfl, hx1⟩ := at_nat HR1.out k hk1
        by_cases he : rd l0 k = rd l1 k
        · have heb : (rd l0 k != rd l1 k) = false := by rw [he]; simp
          have HN := Aside0.mk (take_next (0 : Int) l0 l1 k hk hk1 HT.out he)
          clear he
          go_wp2
          go_quiet (fail)
          go_wp2
          go_roundw
          case rel => exact ⟨k + 1, by omega, by go_num, HN, by repeat (first | exact Drawn0.refl _ | apply Drawn0.step)⟩
          case measure => simp [intOf]; omega
        · have heb : (rd l0 k != rd l1 k) = true := by simpa using he
          have HN := Aside0.mk (show decide (l0 = l1) = false by simp; rintro rfl; exact he rfl)
          clear he
          go_wp2
          go_quiet (fail)
          go_wp2
          go_ret
          exact ⟨ret_bool HN.out.symm, by repeat (first | exact Drawn0.refl _ | apply Drawn0.step)⟩
      · obtain rfl : k = l0.length := by omega
        have HN := Aside0.mk (show decide (l0 = l1) = true by
          have := HT.out
          rw [List.take_length, HL.out, List.take_length] at this
          simpa using this)
        go_wp2
        go_ret
        exact ⟨ret_bool HN.out.symm, by repeat (first | exact Drawn0.refl _ | apply Drawn0.step)⟩
  · have hlb : ((l0.length : Int) != (l1.length : Int)) = true := by simp; omega
    have HN := Aside0.mk (show decide (l0 = l1) = false by simp; intro h; exact hl (by rw [h]))
    clear hl
    go_enter Try.func26, Try.ntmps26
    go_wp2
    go_ret
    exact ⟨ret_bool HN.out.symm, Drawn0.refl _⟩

theorem mask15 (x : Int) : 0 ≤ Go.bits .and .i64 x 15 ∧ Go.bits .and .i64 x 15 ≤ 15 := by
  show 0 ≤ IntKind.i64.wrap ((BitVec.ofInt 64 x &&& BitVec.ofInt 64 15).toNat : Int) ∧ IntKind.i64.wrap ((BitVec.ofInt 64 x &&& BitVec.ofInt 64 15).toNat : Int) ≤ 15
  have hle : (BitVec.ofInt 64 x &&& BitVec.ofInt 64 15).toNat ≤ 15 := by
    rw [BitVec.toNat_and]; exact Nat.le_trans Nat.and_le_right (by decide)
  rw [IntKind.wrap_i64]
  omega
theorem R_at {w : World} {base e c n : Nat} {ad : Addr} {ok : Nat → Prop} {xs : List Int} (h : (Kd.int .u8).R e w base ok (.slice (some ad) n c) xs) : base ≤ ad.block ∧ ad.block < w.heap.size := by
  obtain ⟨inner, ho⟩ := Kd.R_own h
  rcases ho.2 with ⟨hv, _⟩ | ⟨g, cap, cur, hv, hg, hh, _⟩
  · injection hv with h1 _ _
    cases h1
  · injection hv with h1 _ _
    injection h1 with h1
    rw [h1]
    exact ⟨hg, blk_lt hh⟩
theorem R_at' {w : World} {base e c n : Nat} {A : Option Addr} {ok : Nat → Prop} {xs : List Int} (h : (Kd.int .u8).R e w base ok (.slice A n c) xs) : ∀ ad, A = some ad → base ≤ ad.block ∧ ad.block < w.heap.size := by
  intro ad he
  subst he
  exact R_at h
set_option maxRecDepth 20000 in
theorem of_far (A : Option Addr) (c : Nat) (l : List Int) (w : World) (hr : (Kd.int .u8).C w A l.length l) (hb : l.length ≤ 140737488351232) :
    Calls Try.prog 22 #[.slice A l.length c] w fun e w' => ∃ (g : Nat) (An : Option Addr) (cn : Nat), e = .returned (.pointer (some ⟨g, 0, none⟩)) ∧ Nmd w' g An cn l false ∧ w.heap.size ≤ g ∧ Below w.heap.size w w' ∧ ∀ ad, An = some ad → w.heap.size ≤ ad.block ∧ ad.block < w'.heap.size := by
  have HC := Aside0.mk (clone_any A c l w hr (by omega))
  clear hr hb
  go_enter Try.func22, Try.ntmps22
  go_wp2_with (first | (go_at_call 37; (with_reducible refine HC.out.mono ?_); rintro e w1 ⟨v1, rfl, ho, hb1⟩; have hlt := Kd.R_lt ho; obtain ⟨A1, c1, rfl, hc1, hC1⟩ := Kd.R_reads ho; have HFAR := Aside0.mk (R_at' ho); have HLT := Aside0.mk hlt; have HC1 := Aside0.mk hC1; have HB := Aside0.mk hb1; have HCP := Aside0.mk hc1; clear hlt ho hb1 hC1 hc1))
  go_ret
  refine ⟨w1.heap.size, A1, c1, rfl, ⟨heap_alloc_new w1 _, Kd.C_below HC1.out (below_alloc (Below.refl _ _) _), HCP.out, fun ad h => ?_⟩, HB.out.size, below_alloc HB.out _, fun ad h => ⟨(HFAR.out ad h).1, by have := (HFAR.out ad h).2; simp; omega⟩⟩
  subst h
  exact Nat.ne_of_lt (HLT.out _ rfl)
theorem enter24 (vs : Array Value) (W : World) : (callFunc 24 vs).run Try.prog W = .ok (.enter 24 vs) W := enter_of Try.func24 (by rfl) (by decide +kernel) vs W
theorem enter25 (vs : Array Value) (W : World) : (callFunc 25 vs).run Try.prog W = .ok (.enter 25 vs) W := enter_of Try.func25 (by rfl) (by decide +kernel) vs W
theorem enter26 (vs : Array Value) (W : World) : (callFunc 26 vs).run Try.prog W = .ok (.enter 26 vs) W := enter_of Try.func26 (by rfl) (by decide +kernel) vs W
theorem sums_v (w : World) (g : Nat) (A : Option Addr) (c : Nat) (l : List Int) (d : Bool) (s : Int) (hs : (if d then 1 else 0) = s) (h : Nmd w g A c l d) :
    Calls Try.prog 24 #[.pointer (some ⟨g, 0, none⟩)] w fun e w' => ∃ u, e = .returned u ∧ u = .int .i64 s ∧ w' = w :=
  (sums_any w g A c l d h).mono fun _ _ ⟨he, hw⟩ => ⟨_, he, by rw [hs], hw⟩
theorem bytes_v (w : World) (g : Nat) (A : Option Addr) (c : Nat) (l : List Int) (d : Bool) (h : Nmd w g A c l d) (hl : l.length ≤ 140737488351232) :
    Calls Try.prog 25 #[.pointer (some ⟨g, 0, none⟩)] w fun e w' => ∃ u, e = .returned u ∧ ∃ (A1 : Option Addr) (c1 : Nat), u = .slice A1 l.length c1 ∧ (Kd.int .u8).C w' A1 l.length l ∧ Below w.heap.size w w' :=
  (bytes_any w g A c l d h hl).mono fun _ _ ⟨v, he, ho, hb⟩ => by
    obtain ⟨A1, c1, hv, _, hC⟩ := Kd.R_reads ho
    exact ⟨v, he, A1, c1, hv, hC, hb⟩
theorem same_v (A0 : Option Addr) (c0 : Nat) (l0 : List Int) (A1 : Option Addr) (c1 : Nat) (w : World) (hr0 : Kd.C (Kd.int .u8) w A0 l0.length l0) (hr1 : Kd.C (Kd.int .u8) w A1 l0.length l0) :
    Calls Try.prog 26 #[.slice A0 l0.length c0, .slice A1 l0.length c1] w fun e w' => ∃ u, e = .returned u ∧ u = .bool true ∧ Below w.heap.size w w' :=
  (sameBytes_any A0 c0 l0 A1 c1 l0 w hr0 hr1).mono fun _ _ ⟨he, hb⟩ => ⟨_, he, by rw [decide_eq_true rfl], hb.below⟩
theorem str_abc : strOfNums [97, 98, 99] = ⟨#[97, 98, 99]⟩ := by decide +kernel

set_option maxHeartbeats 8000000 in
set_option maxRecDepth 20000 in
theorem ShaNamed_core (Ab : Option Addr) (cb : Nat) (lb : List Int) (n : Int) (w : World)
    (hCb : (Kd.int .u8).C w Ab lb.length lb) (hcb : lb.length ≤ cb) (hlb : lb.length ≤ 140737488351232) :
    Calls Try.prog 9 #[.slice Ab lb.length cb, .int .i64 n] w fun e w' => e = .returned (.bool true) ∧ Below w.heap.size w w' := by
  have HCb := Aside0.mk hCb
  have HCBP := Aside0.mk hcb
  have HLB := Aside0.mk hlb
  have hcv := fun (W : World) (C : Array Value) (n c : Nat) => Lib.run_convert_bytes_const (P := Try.prog) W 32 5 C n c Try.underlying32 Try.underlying5
  have hz := fun W => (eq32 W (sumF [97, 98, 99]) (sumF [97, 98, 99]) (sumF_len _) (sumF_len _)).trans (by rw [decide_eq_true rfl])
  have HO := Aside0.mk (show Calls Try.prog 22 #[.slice (some ⟨w.heap.size, 0, none⟩) 3 3] (w.alloc (.cells #[.int .u8 97, .int .u8 98, .int .u8 99] 5 (3, 4))) (NewNm (w.alloc (.cells #[.int .u8 97, .int .u8 98, .int .u8 99] 5 (3, 4))) [97, 98, 99]) from
    of_any (some ⟨w.heap.size, 0, none⟩) 3 [97, 98, 99] _ (C_litf w _ 5 (3, 4) [97, 98, 99] rfl (by decide)) (by decide))
  clear hCb hcb hlb
  have h19 : ∀ W : World, Calls Try.prog 19 #[.slice (some ⟨W.heap.size, 0, none⟩) 3 3] (W.alloc (.cells #[.int .u8 97, .int .u8 98, .int .u8 99] 5 (3, 4))) fun e w' => e = .returned (.agg (((sumF [97, 98, 99]).map (Value.int .u8)).toArray)) ∧ Below (W.alloc (.cells #[.int .u8 97, .int .u8 98, .int .u8 99] 5 (3, 4))).heap.size (W.alloc (.cells #[.int .u8 97, .int .u8 98, .int .u8 99] 5 (3, 4))) w' := fun W => sum_any (some ⟨W.heap.size, 0, none⟩) 3 [97, 98, 99] (W.alloc (.cells #[.int .u8 97, .int .u8 98, .int .u8 99] 5 (3, 4))) (C_litf W _ 5 (3, 4) [97, 98, 99] rfl (by decide)) (by decide) (by decide)
  have HSZA := Aside0.mk (size23a (sumF lb) (sumF_len lb))
  have HONE := Aside0.mk (ints_one (sumF lb))
  by_cases hbig : 20000 < lb.length
  · skip
    go_enter Try.func9, Try.ntmps9
    go_wp2_with (first
      | (go_at_call 22; (with_reducible refine HO.out.mono ?_); rintro e w1 ⟨g, A, c, rfl, hN, hC, hc, hne, hlo, hB⟩; have HN := Aside0.mk (show Nmd w1 g A c [97, 98, 99] false from ⟨hN, hC, hc, hne⟩); have HB1 := Aside0.mk (below_step (below_alloc (Below.refl w.heap.size w) _) hB); have HGW := Aside0.mk (show w.heap.size ≤ g from Nat.le_trans (by simp) hlo); clear hN hC hc hne hlo hB)
      | (go_at_call 17; (with_reducible refine (alive_any _).mono ?_); rintro e w2 ⟨rfl, hb⟩; have HN2 := Aside0.mk (HN.out.step hb); have HB2 := Aside0.mk (below_step HB1.out hb); clear hb)
      | (go_at_call 24; (with_reducible refine (sums_any _ g A c [97, 98, 99] false HN2.out).mono ?_); rintro e w3 ⟨rfl, rfl⟩)
      | (go_at_call 23; (with_reducible refine (id_any _ g A c [97, 98, 99] false HN2.out (by decide)).mono ?_); rintro e w4 ⟨rfl, hN4, hg4⟩; have HN4 := Aside0.mk hN4; have HB4 := Aside0.mk (HB2.out.grown hg4 HB2.out.size (fun k hk => by injection hk with hk; have := HGW.out; omega)); clear hN4 hg4)
      | (go_at_call 19; (with_reducible refine (h19 _).mono ?_); rintro e w5 ⟨rfl, hb⟩; have HN5 := Aside0.mk (HN4.out.step (below_step (below_alloc (Below.refl w4.heap.size w4) _) hb)); have HB5 := Aside0.mk (below_step (below_alloc HB4.out _) hb); clear hb)
      | (go_at_call 24; (with_reducible refine (sums_any _ g A c [97, 98, 99] true HN5.out).mono ?_); rintro e w6 ⟨rfl, rfl⟩)
      | (go_at_call 25; (with_reducible refine (bytes_any _ g A c [97, 98, 99] true HN5.out (by decide)).mono ?_); rintro e w7 ⟨v7, rfl, ho, hb⟩; have HB7 := Aside0.mk (below_step HB5.out hb); obtain ⟨A7, c7, hv7, hc7, hC7⟩ := Kd.R_reads ho; subst hv7; have hcs := Kd.C_string (P := Try.prog) (w := w7) (src := 32) (dst := 9) (e := 5) (c := c7) (A := A7) Try.underlying32 Try.underlying5 Try.underlying9 hC7; rw [str_abc, show ([97, 98, 99] : List Int).length = 3 from rfl] at hcs; clear ho hb hC7 hc7))
    go_ret
    exact ⟨rfl, HB7.out⟩
  · skip
    go_enter Try.func9, Try.ntmps9
    go_wp2_with (first
      | (go_at_call 22; (with_reducible refine HO.out.mono ?_); rintro e w1 ⟨g, A, c, rfl, hN, hC, hc, hne, hlo, hB⟩; have HN := Aside0.mk (show Nmd w1 g A c [97, 98, 99] false from ⟨hN, hC, hc, hne⟩); have HB1 := Aside0.mk (below_step (below_alloc (Below.refl w.heap.size w) _) hB); have HGW := Aside0.mk (show w.heap.size ≤ g from Nat.le_trans (by simp) hlo); clear hN hC hc hne hlo hB)
      | (go_at_call 17; (with_reducible refine (alive_any _).mono ?_); rintro e w2 ⟨rfl, hb⟩; have HN2 := Aside0.mk (HN.out.step hb); have HB2 := Aside0.mk (below_step HB1.out hb); clear hb)
      | (go_at_call 24; (with_reducible refine (sums_any _ g A c [97, 98, 99] false HN2.out).mono ?_); rintro e w3 ⟨rfl, rfl⟩)
      | (go_at_call 23; (with_reducible refine (id_any _ g A c [97, 98, 99] false HN2.out (by decide)).mono ?_); rintro e w4 ⟨rfl, hN4, hg4⟩; have HN4 := Aside0.mk hN4; have HB4 := Aside0.mk (HB2.out.grown hg4 HB2.out.size (fun k hk => by injection hk with hk; have := HGW.out; omega)); clear hN4 hg4)
      | (go_at_call 19; (with_reducible refine (h19 _).mono ?_); rintro e w5 ⟨rfl, hb⟩; have HN5 := Aside0.mk (HN4.out.step (below_step (below_alloc (Below.refl w4.heap.size w4) _) hb)); have HB5 := Aside0.mk (below_step (below_alloc HB4.out _) hb); clear hb)
      | (go_at_call 24; (with_reducible refine (sums_any _ g A c [97, 98, 99] true HN5.out).mono ?_); rintro e w6 ⟨rfl, rfl⟩)
      | (go_at_call 25; (with_reducible refine (bytes_any _ g A c [97, 98, 99] true HN5.out (by decide)).mono ?_); rintro e w7 ⟨v7, rfl, ho, hb⟩; have HB7 := Aside0.mk (below_step HB5.out hb); obtain ⟨A7, c7, hv7, hc7, hC7⟩ := Kd.R_reads ho; subst hv7; have hcs := Kd.C_string (P := Try.prog) (w := w7) (src := 32) (dst := 9) (e := 5) (c := c7) (A := A7) Try.underlying32 Try.underlying5 Try.underlying9 hC7; rw [str_abc, show ([97, 98, 99] : List Int).length = 3 from rfl] at hcs; clear ho hb hC7 hc7)
      | (at_builtin; refine app_row (w0 := w7) (base := w7.heap.size) rfl (.tmp 49) (.tmp 50) rfl _ [] lb Ab lb.length cb rfl rfl (R_empty _ _ _ _ (Nat.le_refl _)) (Kd.C_below HCb.out (below_alloc HB7.out _)) (below_alloc (Below.refl _ _) _) (below_alloc (Below.refl _ _) _).size ?c1 ?_; (case c1 => simp; omega); intro v8 w8 ho hb hg; rw [List.nil_append] at ho; obtain ⟨A8, c8, hv8, hc8, hC8⟩ := Kd.R_reads ho; subst hv8; have HO8 := Aside0.mk ho; have HB8 := Aside0.mk hb; have HW8 := Aside0.mk (below_step HB7.out hb); have HC8 := Aside0.mk hC8; clear ho hb hg hc8 hC8)
      | (go_at_call 22; (with_reducible refine (of_far A8 c8 lb _ HC8.out HLB.out).mono ?_); rintro e w9 ⟨gn, An, cn, rfl, hn, hlo, hb, hfar⟩; have HA8 := Aside0.mk (R_at' HO8.out); have HAN := Aside0.mk hfar; clear hfar; have HNM := Aside0.mk hn; have HLO := Aside0.mk hlo; have HB9 := Aside0.mk (below_step HB8.out hb); have HW9 := Aside0.mk (below_step HW8.out hb); have HO9 := Aside0.mk (Kd.R_below HO8.out hb); have HLT9 := Aside0.mk hb.size; have HS78 := Aside0.mk HB8.out.size; clear hn hlo hb)
      | (go_at_call 19; (with_reducible refine (sum_any Ab cb lb _ (Kd.C_below HCb.out HW9.out) HCBP.out HLB.out).mono ?_); rintro e w10 ⟨rfl, hb⟩; have HB10 := Aside0.mk (below_step HB9.out hb); have HW10 := Aside0.mk (below_step HW9.out hb); have HO10 := Aside0.mk (Kd.R_below HO9.out hb); have HN10 := Aside0.mk (HNM.out.step hb); have HS910 := Aside0.mk hb.size; have HLT10 := Aside0.mk (show w8.heap.size ≤ w10.heap.size from Nat.le_trans HLT9.out hb.size); clear hb)
      | ((with_reducible refine arm_store_new (ty := 23) (c' := ((sumF lb).map (Value.int .u8)).toArray) ?_ ?_ HSZA.out ?_ HONE.out ?_); rfl; rfl; (simp [sumF_len]); obtain ⟨gw, hgw⟩ : ∃ g, g = w10.heap.size := ⟨_, rfl⟩; have HTW := Aside0.mk (show (w10.alloc (.cells (((sumF lb).map (Value.int .u8)).toArray) 23)).heap[gw]? = some (.cells (((sumF lb).map (Value.int .u8)).toArray) 23 (0, 0)) by rw [hgw]; exact heap_alloc_new w10 _); have HB11 := Aside0.mk (below_alloc HB10.out (.cells (((sumF lb).map (Value.int .u8)).toArray) 23)); have HW11 := Aside0.mk (below_alloc HW10.out (.cells (((sumF lb).map (Value.int .u8)).toArray) 23)); have HO11 := Aside0.mk (Kd.R_alloc HO10.out (.cells (((sumF lb).map (Value.int .u8)).toArray) 23)); have HN11 := Aside0.mk (HN10.out.step (below_alloc (Below.refl w10.heap.size w10) (.cells (((sumF lb).map (Value.int .u8)).toArray) 23))); have HGN := Aside0.mk (show gn ≠ gw by rw [hgw]; exact Nat.ne_of_lt (blk_lt HN10.out.blk)); have HANW := Aside0.mk (show ∀ ad, An = some ad → ad.block < gw by rw [hgw]; exact fun ad h => Nat.lt_of_lt_of_le (HAN.out ad h).2 HS910.out); have HGW8 := Aside0.mk (show w8.heap.size ≤ gw by rw [hgw]; exact HLT10.out); rw [← hgw]; clear hgw; generalize w10.alloc (.cells (((sumF lb).map (Value.int .u8)).toArray) 23) = w11 at *))
    have HI11 := Aside0.mk (⟨lb, rfl, HO11.out⟩ : ∃ xs : List Int, xs.length = lb.length ∧ (Kd.int .u8).R 5 w11 w7.heap.size (fun _ => True) (.slice A8 lb.length c8) xs)
    have HGWL := Aside0.mk HGW8.out
    clear HO HO8 HO9 HO10 HO11 HN HN2 HN4 HN5 HN10 HNM HB1 HB2 HB4 HB5 HB8 HB9 HB10 HC8 HW8 HW9 HW10
    go_loopw [58] (fun v wr => ∃ k : Nat, k ≤ lb.length ∧ v = .int .i64 k ∧ Aside0 (∃ xs : List Int, xs.length = lb.length ∧ (Kd.int .u8).R 5 wr w7.heap.size (fun _ => True) (.slice A8 lb.length c8) xs) ∧ Aside0 (Nmd wr gn An cn lb false) ∧ Aside0 (wr.heap[gw]? = some (.cells (((sumF lb).map (Value.int .u8)).toArray) 23 (0, 0))) ∧ Aside0 (Below w.heap.size w wr)) (fun v _ => lb.length - (intOf v).toNat)
    case atStart => exact ⟨0, by omega, rfl, HI11, HN11, HTW, HW11⟩
    case round =>
      clear HI11 HN11 HTW HW11
      obtain ⟨k, hk, rfl, HI, HN, HTW, HW⟩ := hrel
      by_cases hk2 : k < lb.length
      · obtain ⟨xs, hxl, hxr⟩ := HI.out
        obtain ⟨g8, cap8, hv, _, _⟩ := R_form hxr (by decide) (by omega)
        injection hv with e1 _ e3
        subst e1 e3
        obtain ⟨h8a, h8b⟩ := HA8.out _ rfl
        replace h8a : w7.heap.size ≤ g8 := h8a
        replace h8b : g8 < w8.heap.size := h8b
        obtain ⟨hx, hfz⟩ := Kd.R_celln (0 : Int) hxr (k : Int) (by omega) (by omega)
        simp only [Int.toNat_natCast] at hx hfz
        have HPUT := Aside0.mk (fun x => Kd.R_putn hxr (k : Int) x)
        have HXL := Aside0.mk hxl
        have H8 := Aside0.mk h8a
        have H8N := Aside0.mk (show gn ≠ g8 by have := HLO.out; omega)
        have H8W := Aside0.mk (show gw ≠ g8 by have := HGW8.out; omega)
        have H8A := Aside0.mk (show ∀ ad, An = some ad → ad.block ≠ g8 by intro ad h; have := (HAN.out ad h).1; omega)
        have H8L := Aside0.mk (show w.heap.size ≤ g8 from Nat.le_trans HB7.out.size h8a)
        obtain ⟨x, hxx⟩ : ∃ x, rdOf (0 : Int) xs (k : Int) = x := ⟨_, rfl⟩
        rw [hxx] at hx
        clear h8a h8b hxl hxr HI hxx
        go_wp2
        go_roundw
        case rel => exact ⟨k + 1, by omega, by go_num, ⟨⟨_, by rw [List.length_set]; exact HXL.out, HPUT.out _⟩⟩, ⟨⟨(heap_setCell_other wr _ _ _ H8N.out).trans HN.out.blk, C_grown HN.out.C (grown_set _ _ _ _) H8A.out, HN.out.cap, HN.out.ne⟩⟩, ⟨(heap_setCell_other wr _ _ _ H8W.out).trans HTW.out⟩, ⟨below_set HW.out H8L.out⟩⟩
        case measure => simp [intOf]; omega
      · obtain rfl : k = lb.length := by omega
        clear HI
        obtain ⟨hm0, hm15⟩ := mask15 n
        obtain ⟨m, hm⟩ : ∃ m : Nat, Go.bits .and .i64 n 15 = m := ⟨(Go.bits .and .i64 n 15).toNat, by omega⟩
        have HM := Aside0.mk (show m ≤ 15 by omega)
        have HGNL := Aside0.mk (show w.heap.size ≤ gn by have := HLO.out; have := HB7.out.size; have := HS78.out; omega)
        have HSZL := Aside0.mk (sz23 (sumF lb) (sumF_len lb))
        have hzb := fun W => (eq32 W (sumF lb) (sumF lb) (sumF_len lb) (sumF_len lb)).trans (by rw [decide_eq_true rfl])
        clear hm0 hm15 hz hcv hk hk2
        obtain ⟨wa, rfl⟩ : ∃ wa, wa = wr := ⟨_, rfl⟩
        go_wp2
        go_loopw [10] (fun v wr => ∃ k : Nat, k ≤ m ∧ v = .int .i64 k ∧ Aside0 (Nmd wr gn An cn lb (decide (0 < k))) ∧ Aside0 (wr.heap[gw]? = some (.cells (((sumF lb).map (Value.int .u8)).toArray) 23 (0, 0))) ∧ Aside0 (Below w.heap.size w wr)) (fun v _ => m - (intOf v).toNat)
        case atStart => exact ⟨0, by omega, rfl, HN, HTW, HW⟩
        case round =>
          clear HN HTW HW
          obtain ⟨k, hk, rfl, HN, HTW, HW⟩ := hrel
          by_cases hk2 : k < m
          · have hkm : (k : Int) < m := by omega
            have hm16 : m ≤ 15 := HM.out
            go_wp2
            have HN := Aside0.mk (HN.out.step (below_drew1 (Below.refl wr.heap.size wr)))
            have HW := Aside0.mk (below_drew1 HW.out)
            have HTW := Aside0.mk (show wr.drew.heap[gw]? = some (.cells (((sumF lb).map (Value.int .u8)).toArray) 23 (0, 0)) from HTW.out)
            refine wp_region_noPanic ?_
            refine wp_region_held_drew (S := (fun W => W.heap[gw]? = some (.cells (((sumF lb).map (Value.int .u8)).toArray) 23 (0, 0)))) (by kernel_rfl) ?_ (fun hHeld => ?_)
            · exact HTW.out
            refine wpAnyH_take (i := 0) (oi := { dst := some 75, op := Go.Op.move (Go.Operand.tmp 7), type := 45, pos := "law.go:82", after := #[], guard := none }) (v := ?_) rfl (by kernel_rfl) (by kernel_rfl) (by kernel_rfl) (fun _ _ _ h => h) (Or.inl ⟨by rfl, ?_⟩) hHeld ?_
            rotate_left
            · intro w hSw; go_simp; with_reducible rfl
            try simp only [Act.put, List.setIfInBounds_toArray, List.set_cons_zero, List.set_cons_succ]
            refine wpAnyH_take (i := 2) (oi := { dst := some 77, op := Go.Op.load 23 (Go.Operand.tmp 8), type := 23, pos := "law.go:82", after := #[], guard := none }) (v := _) rfl (by kernel_rfl) (by kernel_rfl) (by kernel_rfl) (fun _ _ _ h => h) (yieldsIf_load_mid (by rfl) 23 (.tmp 8) rfl gw 0 rfl ((sumF lb).map (Value.int .u8)) _ (fun W h => range_cs h) Try.underlying23 rfl HSZL.out) hHeld ?_
            try simp only [Act.put, List.setIfInBounds_toArray, List.set_cons_zero, List.set_cons_succ]
            refine wpAnyH_ready (rs := [1]) (by kernel_rfl) (by simp) ?_
            refine AllReadyH.cons (o := { dst := some 76, op := Go.Op.call { callee := Go.Callee.value (Go.Operand.func 23), args := #[Go.Operand.tmp 75], argTypes := #[45] }, type := 23, pos := "law.go:82", after := #[{ on := 0, ground := Go.Ground.data }], guard := none }) rfl (fun K hK => ?_) AllReadyH.nil
            refine step_call1 (f := 23) (x := .tmp 75) (v := .pointer (some ⟨gn, 0, none⟩)) (by rfl) rfl rfl enter23 (id_v _ gn An cn lb _ HN.out HLB.out) ?_
            rintro u1 w2 ⟨rfl, hq⟩
            have HTW := Aside0.mk ((hq.2.block gw (blk_lt HTW.out) (fun h => HGN.out (by injection h with h; exact h.symm))).trans HTW.out)
            have HN := Aside0.mk hq.1
            have HW := Aside0.mk (HW.out.grown hq.2 HW.out.size (fun k hk => by injection hk with hk; have := HGNL.out; omega))
            clear hq
            refine hK.out _ _ (HTW.out) (fun hHeld => ?_)
            clear hK K
            try simp only [Act.put, List.setIfInBounds_toArray, List.set_cons_zero, List.set_cons_succ]
            refine wpAnyH_take (i := 3) (oi := { dst := some 78, op := Go.Op.binOp Go.BinOp.neq 23 (Go.Operand.tmp 76) (Go.Operand.tmp 77) 23, type := 4, pos := "law.go:82", after := #[{ on := 1, ground := Go.Ground.data }, { on := 2, ground := Go.Ground.data }], guard := none }) (v := _) rfl (by kernel_rfl) (by kernel_rfl) (by kernel_rfl) (fun _ _ _ h => h) ((show YieldsIf _ _ _ _ (.bool false) _ from Or.inl ⟨by rfl, fun w hSw => by have hc := hzb w; go_simp⟩)) hHeld ?_
            try simp only [Act.put, List.setIfInBounds_toArray, List.set_cons_zero, List.set_cons_succ]
            refine wpAnyH_done (by kernel_rfl) ?_ _
            refine NoPanic.normal ?_
            clear hzb
            go_wp2
            go_roundw
            case rel => exact ⟨k + 1, by omega, by go_num, ⟨by rw [decide_eq_true (Nat.succ_pos k)]; exact HN.out⟩, HTW, HW⟩
            case measure => simp [intOf]; omega
          · obtain rfl : k = m := by omega
            obtain ⟨wb, rfl⟩ : ∃ wb, wb = wr := ⟨_, rfl⟩
            clear hzb
            have hk15 : k ≤ 15 := HM.out
            have H11N := Aside0.mk (blk_lt HN.out.blk)
            have H11W := Aside0.mk (blk_lt HTW.out)
            have HBB := Aside0.mk HW.out.size
            go_wp2_with (first
              | (go_at_call 25; (with_reducible refine (bytes_any _ gn An cn lb _ HN.out HLB.out).mono ?_); rintro e wc ⟨v11, rfl, ho, hb⟩; obtain ⟨A11, c11, hv, hc11, hC11⟩ := Kd.R_reads ho; subst hv; have HI := Aside0.mk (⟨lb, rfl, ho⟩ : ∃ xs : List Int, xs.length = lb.length ∧ (Kd.int .u8).R 5 wc wb.heap.size (fun _ => True) (.slice A11 lb.length c11) xs); have HN := Aside0.mk (HN.out.step hb); have HTW := Aside0.mk ((hb.block _ (blk_lt HTW.out)).trans HTW.out); have HW := Aside0.mk (below_step HW.out hb); clear ho hb hC11 hc11))
            go_loopw [83] (fun v wr => ∃ j : Nat, j ≤ lb.length ∧ v = .int .i64 j ∧ Aside0 (∃ xs : List Int, xs.length = lb.length ∧ (Kd.int .u8).R 5 wr wb.heap.size (fun _ => True) (.slice A11 lb.length c11) xs) ∧ Aside0 (Nmd wr gn An cn lb (decide (0 < k))) ∧ Aside0 (wr.heap[gw]? = some (.cells (((sumF lb).map (Value.int .u8)).toArray) 23 (0, 0))) ∧ Aside0 (Below w.heap.size w wr)) (fun v _ => lb.length - (intOf v).toNat)
            case atStart => exact ⟨0, by omega, rfl, HI, HN, HTW, HW⟩
            case round =>
              clear HI HN HTW HW
              obtain ⟨j, hj, rfl, HI, HN, HTW, HW⟩ := hrel
              by_cases hj2 : j < lb.length
              · obtain ⟨xs, hxl, hxr⟩ := HI.out
                obtain ⟨g8, cap8, hv, h8a, _⟩ := R_form hxr (by decide) (by omega)
                injection hv with e1 _ e3
                subst e1 e3
                obtain ⟨hx, hfz⟩ := Kd.R_celln (0 : Int) hxr (j : Int) (by omega) (by omega)
                simp only [Int.toNat_natCast] at hx hfz
                have HPUT := Aside0.mk (fun x => Kd.R_putn hxr (j : Int) x)
                have HXL := Aside0.mk hxl
                have H8N := Aside0.mk (show gn ≠ g8 by have := H11N.out; omega)
                have H8W := Aside0.mk (show gw ≠ g8 by have := H11W.out; omega)
                have H8A := Aside0.mk (show ∀ ad, An = some ad → ad.block ≠ g8 by intro ad h; have := HANW.out ad h; have := H11W.out; omega)
                have H8L := Aside0.mk (show w.heap.size ≤ g8 by have := HBB.out; omega)
                obtain ⟨x, hxx⟩ : ∃ x, rdOf (0 : Int) xs (j : Int) = x := ⟨_, rfl⟩
                rw [hxx] at hx
                have hlb2 : lb.length ≤ 20000 := by omega
                clear h8a hxl hxr HI hxx
                go_wp2
                go_roundw
                case rel => exact ⟨j + 1, by omega, by go_num, ⟨⟨_, by rw [List.length_set]; exact HXL.out, HPUT.out _⟩⟩, ⟨⟨(heap_setCell_other wr _ _ _ H8N.out).trans HN.out.blk, C_grown HN.out.C (grown_set _ _ _ _) H8A.out, HN.out.cap, HN.out.ne⟩⟩, ⟨(heap_setCell_other wr _ _ _ H8W.out).trans HTW.out⟩, ⟨below_set HW.out H8L.out⟩⟩
                case measure => simp [intOf]; omega
              · obtain rfl : j = lb.length := by omega
                clear HI
                obtain ⟨we, rfl⟩ : ∃ we, we = wr := ⟨_, rfl⟩
                go_wp2
                obtain ⟨sk, hsk⟩ : ∃ s : Int, (if decide (0 < k) then (1 : Int) else 0) = s := ⟨_, rfl⟩
                have HSK := Aside0.mk hsk
                have HMIN := Aside0.mk (show min (k : Int) 1 = sk by
                  rw [← hsk]
                  rcases Nat.eq_zero_or_pos k with h0 | h0
                  · subst h0; decide
                  · rw [decide_eq_true h0, if_pos rfl]; omega)
                clear hsk
                have hzb := fun W => (eq32 W (sumF lb) (sumF lb) (sumF_len lb) (sumF_len lb)).trans (by rw [decide_eq_true rfl])
                have HN := Aside0.mk (HN.out.step (below_drew1 (Below.refl we.heap.size we)))
                have HW := Aside0.mk (below_drew1 HW.out)
                have HTW := Aside0.mk (show we.drew.heap[gw]? = some (.cells (((sumF lb).map (Value.int .u8)).toArray) 23 (0, 0)) from HTW.out)
                refine wp_region_noPanic ?_
                refine wp_region_held_drew (S := (fun W => W.heap[gw]? = some (.cells (((sumF lb).map (Value.int .u8)).toArray) 23 (0, 0)))) (by kernel_rfl) ?_ (fun hHeld => ?_)
                · exact HTW.out
                refine wpAnyH_take (i := 0) (oi := { dst := some 93, op := Go.Op.move (Go.Operand.tmp 7), type := 45, pos := "law.go:90", after := #[], guard := none }) (v := ?_) rfl (by kernel_rfl) (by kernel_rfl) (by kernel_rfl) (fun _ _ _ h => h) (Or.inl ⟨by rfl, ?_⟩) hHeld ?_
                rotate_left
                · intro w hSw; go_simp; with_reducible rfl
                try simp only [Act.put, List.setIfInBounds_toArray, List.set_cons_zero, List.set_cons_succ]
                refine wpAnyH_take (i := 2) (oi := { dst := some 95, op := Go.Op.move (Go.Operand.tmp 1), type := 3, pos := "law.go:90", after := #[], guard := none }) (v := ?_) rfl (by kernel_rfl) (by kernel_rfl) (by kernel_rfl) (fun _ _ _ h => h) (Or.inl ⟨by rfl, ?_⟩) hHeld ?_
                rotate_left
                · intro w hSw; go_simp; with_reducible rfl
                try simp only [Act.put, List.setIfInBounds_toArray, List.set_cons_zero, List.set_cons_succ]
                refine wpAnyH_take (i := 3) (oi := { dst := some 96, op := Go.Op.call { callee := Go.Callee.builtin Go.Builtin.min, args := #[Go.Operand.tmp 95, Go.Operand.const (Go.Value.int Go.IntKind.i64 1)], argTypes := #[3, 3] }, type := 3, pos := "law.go:90", after := #[{ on := 2, ground := Go.Ground.data }], guard := none }) (v := _) rfl (by kernel_rfl) (by kernel_rfl) (by kernel_rfl) (fun _ _ _ h => h) ((show YieldsIf _ _ _ _ (.int .i64 sk) _ from Or.inl ⟨by rfl, fun w hSw => by go_simp; exact HMIN.out⟩)) hHeld ?_
                try simp only [Act.put, List.setIfInBounds_toArray, List.set_cons_zero, List.set_cons_succ]
                refine wpAnyH_ready (rs := [1]) (by kernel_rfl) (by simp) ?_
                refine AllReadyH.cons (o := { dst := some 94, op := Go.Op.call { callee := Go.Callee.value (Go.Operand.func 24), args := #[Go.Operand.tmp 93], argTypes := #[45] }, type := 2, pos := "law.go:90", after := #[{ on := 0, ground := Go.Ground.data }], guard := none }) rfl (fun K hK => ?_) AllReadyH.nil
                refine step_call1 (f := 24) (x := .tmp 93) (v := .pointer (some ⟨gn, 0, none⟩)) (by rfl) rfl rfl enter24 (sums_v _ gn An cn lb _ sk HSK.out HN.out) ?_
                rintro u1 w2 ⟨rfl, rfl⟩
                refine hK.out _ _ (HTW.out) (fun hHeld => ?_)
                clear hK K
                try simp only [Act.put, List.setIfInBounds_toArray, List.set_cons_zero, List.set_cons_succ]
                refine wpAnyH_take (i := 4) (oi := { dst := some 97, op := Go.Op.binOp Go.BinOp.eql 2 (Go.Operand.tmp 94) (Go.Operand.tmp 96) 2, type := 4, pos := "law.go:90", after := #[{ on := 1, ground := Go.Ground.data }, { on := 3, ground := Go.Ground.data }], guard := none }) (v := _) rfl (by kernel_rfl) (by kernel_rfl) (by kernel_rfl) (fun _ _ _ h => h) ((show YieldsIf _ _ _ _ (.bool true) _ from Or.inl ⟨by rfl, fun w hSw => by go_simp⟩)) hHeld ?_
                try simp only [Act.put, List.setIfInBounds_toArray, List.set_cons_zero, List.set_cons_succ]
                refine wpAnyH_take (i := 5) (oi := { dst := some 98, op := Go.Op.move (Go.Operand.tmp 97), type := 4, pos := "law.go:90", after := #[{ on := 4, ground := Go.Ground.data }, { on := 1, ground := Go.Ground.chain }], guard := none }) (v := ?_) rfl (by kernel_rfl) (by kernel_rfl) (by kernel_rfl) (fun _ _ _ h => h) (Or.inl ⟨by rfl, ?_⟩) hHeld ?_
                rotate_left
                · intro w hSw; go_simp; with_reducible rfl
                try simp only [Act.put, List.setIfInBounds_toArray, List.set_cons_zero, List.set_cons_succ]
                refine wpAnyH_take (i := 6) (oi := { dst := some 99, op := Go.Op.move (Go.Operand.tmp 7), type := 45, pos := "law.go:90", after := #[{ on := 5, ground := Go.Ground.guard }], guard := some (5, true) }) (v := ?_) rfl (by kernel_rfl) (by kernel_rfl) (by kernel_rfl) (fun _ _ _ h => h) (Or.inl ⟨by rfl, ?_⟩) hHeld ?_
                rotate_left
                · intro w hSw; go_simp; with_reducible rfl
                try simp only [Act.put, List.setIfInBounds_toArray, List.set_cons_zero, List.set_cons_succ]
                refine wpAnyH_take (i := 8) (oi := { dst := some 101, op := Go.Op.load 23 (Go.Operand.tmp 8), type := 23, pos := "law.go:90", after := #[{ on := 5, ground := Go.Ground.guard }], guard := some (5, true) }) (v := _) rfl (by kernel_rfl) (by kernel_rfl) (by kernel_rfl) (fun _ _ _ h => h) (yieldsIf_load_mid (by rfl) 23 (.tmp 8) rfl gw 0 rfl ((sumF lb).map (Value.int .u8)) _ (fun W h => range_cs h) Try.underlying23 rfl HSZL.out) hHeld ?_
                try simp only [Act.put, List.setIfInBounds_toArray, List.set_cons_zero, List.set_cons_succ]
                refine wpAnyH_ready (rs := [7]) (by kernel_rfl) (by simp) ?_
                refine AllReadyH.cons (o := { dst := some 100, op := Go.Op.call { callee := Go.Callee.value (Go.Operand.func 23), args := #[Go.Operand.tmp 99], argTypes := #[45] }, type := 23, pos := "law.go:90", after := #[{ on := 6, ground := Go.Ground.data }, { on := 5, ground := Go.Ground.chain }, { on := 5, ground := Go.Ground.guard }], guard := some (5, true) }) rfl (fun K hK => ?_) AllReadyH.nil
                refine step_call1 (f := 23) (x := .tmp 99) (v := .pointer (some ⟨gn, 0, none⟩)) (by rfl) rfl rfl enter23 (id_v _ gn An cn lb _ HN.out HLB.out) ?_
                rintro u1 w2 ⟨rfl, hq⟩
                have HTW := Aside0.mk ((hq.2.block gw (blk_lt HTW.out) (fun h => HGN.out (by injection h with h; exact h.symm))).trans HTW.out)
                have HN := Aside0.mk hq.1
                have HW := Aside0.mk (HW.out.grown hq.2 HW.out.size (fun k hk => by injection hk with hk; have := HGNL.out; omega))
                clear hq
                refine hK.out _ _ (HTW.out) (fun hHeld => ?_)
                clear hK K
                try simp only [Act.put, List.setIfInBounds_toArray, List.set_cons_zero, List.set_cons_succ]
                refine wpAnyH_take (i := 9) (oi := { dst := some 102, op := Go.Op.binOp Go.BinOp.eql 23 (Go.Operand.tmp 100) (Go.Operand.tmp 101) 23, type := 4, pos := "law.go:90", after := #[{ on := 7, ground := Go.Ground.data }, { on := 8, ground := Go.Ground.data }, { on := 5, ground := Go.Ground.guard }], guard := some (5, true) }) (v := _) rfl (by kernel_rfl) (by kernel_rfl) (by kernel_rfl) (fun _ _ _ h => h) ((show YieldsIf _ _ _ _ (.bool true) _ from Or.inl ⟨by rfl, fun w hSw => by have hc := hzb w; go_simp⟩)) hHeld ?_
                try simp only [Act.put, List.setIfInBounds_toArray, List.set_cons_zero, List.set_cons_succ]
                refine wpAnyH_take (i := 10) (oi := { dst := some 103, op := Go.Op.pick (Go.Operand.tmp 98) (Go.Operand.tmp 102) (Go.Operand.const (Go.Value.bool false)), type := 4, pos := "law.go:90", after := #[{ on := 5, ground := Go.Ground.data }, { on := 9, ground := Go.Ground.data }], guard := none }) (v := ?_) rfl (by kernel_rfl) (by kernel_rfl) (by kernel_rfl) (fun _ _ _ h => h) (Or.inl ⟨by rfl, ?_⟩) hHeld ?_
                rotate_left
                · intro w hSw; go_simp; with_reducible rfl
                try simp only [Act.put, List.setIfInBounds_toArray, List.set_cons_zero, List.set_cons_succ]
                refine wpAnyH_take (i := 11) (oi := { dst := some 104, op := Go.Op.move (Go.Operand.tmp 103), type := 4, pos := "law.go:90", after := #[{ on := 10, ground := Go.Ground.data }, { on := 7, ground := Go.Ground.chain }], guard := none }) (v := ?_) rfl (by kernel_rfl) (by kernel_rfl) (by kernel_rfl) (fun _ _ _ h => h) (Or.inl ⟨by rfl, ?_⟩) hHeld ?_
                rotate_left
                · intro w hSw; go_simp; with_reducible rfl
                try simp only [Act.put, List.setIfInBounds_toArray, List.set_cons_zero, List.set_cons_succ]
                refine wpAnyH_take (i := 12) (oi := { dst := some 105, op := Go.Op.move (Go.Operand.tmp 7), type := 45, pos := "law.go:90", after := #[{ on := 11, ground := Go.Ground.guard }], guard := some (11, true) }) (v := ?_) rfl (by kernel_rfl) (by kernel_rfl) (by kernel_rfl) (fun _ _ _ h => h) (Or.inl ⟨by rfl, ?_⟩) hHeld ?_
                rotate_left
                · intro w hSw; go_simp; with_reducible rfl
                try simp only [Act.put, List.setIfInBounds_toArray, List.set_cons_zero, List.set_cons_succ]
                refine wpAnyH_ready (rs := [13]) (by kernel_rfl) (by simp) ?_
                refine AllReadyH.cons (o := { dst := some 106, op := Go.Op.call { callee := Go.Callee.value (Go.Operand.func 24), args := #[Go.Operand.tmp 105], argTypes := #[45] }, type := 2, pos := "law.go:90", after := #[{ on := 12, ground := Go.Ground.data }, { on := 11, ground := Go.Ground.chain }, { on := 11, ground := Go.Ground.guard }], guard := some (11, true) }) rfl (fun K hK => ?_) AllReadyH.nil
                refine step_call1 (f := 24) (x := .tmp 105) (v := .pointer (some ⟨gn, 0, none⟩)) (by rfl) rfl rfl enter24 (sums_v _ gn An cn lb _ 1 rfl HN.out) ?_
                rintro u1 w2 ⟨rfl, rfl⟩
                refine hK.out _ _ (HTW.out) (fun hHeld => ?_)
                clear hK K
                try simp only [Act.put, List.setIfInBounds_toArray, List.set_cons_zero, List.set_cons_succ]
                refine wpAnyH_take (i := 14) (oi := { dst := some 107, op := Go.Op.binOp Go.BinOp.eql 2 (Go.Operand.tmp 106) (Go.Operand.const (Go.Value.int Go.IntKind.i64 1)) 2, type := 4, pos := "law.go:90", after := #[{ on := 13, ground := Go.Ground.data }, { on := 11, ground := Go.Ground.guard }], guard := some (11, true) }) (v := _) rfl (by kernel_rfl) (by kernel_rfl) (by kernel_rfl) (fun _ _ _ h => h) ((show YieldsIf _ _ _ _ (.bool true) _ from Or.inl ⟨by rfl, fun w hSw => by go_simp⟩)) hHeld ?_
                try simp only [Act.put, List.setIfInBounds_toArray, List.set_cons_zero, List.set_cons_succ]
                refine wpAnyH_take (i := 15) (oi := { dst := some 108, op := Go.Op.pick (Go.Operand.tmp 104) (Go.Operand.tmp 107) (Go.Operand.const (Go.Value.bool false)), type := 4, pos := "law.go:90", after := #[{ on := 11, ground := Go.Ground.data }, { on := 14, ground := Go.Ground.data }], guard := none }) (v := ?_) rfl (by kernel_rfl) (by kernel_rfl) (by kernel_rfl) (fun _ _ _ h => h) (Or.inl ⟨by rfl, ?_⟩) hHeld ?_
                rotate_left
                · intro w hSw; go_simp; with_reducible rfl
                try simp only [Act.put, List.setIfInBounds_toArray, List.set_cons_zero, List.set_cons_succ]
                refine wpAnyH_take (i := 16) (oi := { dst := some 109, op := Go.Op.move (Go.Operand.tmp 108), type := 4, pos := "law.go:90", after := #[{ on := 15, ground := Go.Ground.data }, { on := 13, ground := Go.Ground.chain }], guard := none }) (v := ?_) rfl (by kernel_rfl) (by kernel_rfl) (by kernel_rfl) (fun _ _ _ h => h) (Or.inl ⟨by rfl, ?_⟩) hHeld ?_
                rotate_left
                · intro w hSw; go_simp; with_reducible rfl
                try simp only [Act.put, List.setIfInBounds_toArray, List.set_cons_zero, List.set_cons_succ]
                refine wpAnyH_take (i := 17) (oi := { dst := some 110, op := Go.Op.move (Go.Operand.tmp 7), type := 45, pos := "law.go:90", after := #[{ on := 16, ground := Go.Ground.guard }], guard := some (16, true) }) (v := ?_) rfl (by kernel_rfl) (by kernel_rfl) (by kernel_rfl) (fun _ _ _ h => h) (Or.inl ⟨by rfl, ?_⟩) hHeld ?_
                rotate_left
                · intro w hSw; go_simp; with_reducible rfl
                try simp only [Act.put, List.setIfInBounds_toArray, List.set_cons_zero, List.set_cons_succ]
                refine wpAnyH_take (i := 19) (oi := { dst := some 112, op := Go.Op.move (Go.Operand.tmp 0), type := 32, pos := "law.go:90", after := #[{ on := 16, ground := Go.Ground.guard }], guard := some (16, true) }) (v := ?_) rfl (by kernel_rfl) (by kernel_rfl) (by kernel_rfl) (fun _ _ _ h => h) (Or.inl ⟨by rfl, ?_⟩) hHeld ?_
                rotate_left
                · intro w hSw; go_simp; with_reducible rfl
                try simp only [Act.put, List.setIfInBounds_toArray, List.set_cons_zero, List.set_cons_succ]
                refine wpAnyH_ready (rs := [18]) (by kernel_rfl) (by simp) ?_
                refine AllReadyH.cons (o := { dst := some 111, op := Go.Op.call { callee := Go.Callee.value (Go.Operand.func 25), args := #[Go.Operand.tmp 110], argTypes := #[45] }, type := 32, pos := "law.go:90", after := #[{ on := 17, ground := Go.Ground.data }, { on := 16, ground := Go.Ground.chain }, { on := 16, ground := Go.Ground.guard }], guard := some (16, true) }) rfl (fun K hK => ?_) AllReadyH.nil
                refine step_call1 (f := 25) (x := .tmp 110) (v := .pointer (some ⟨gn, 0, none⟩)) (by rfl) rfl rfl enter25 (bytes_v _ gn An cn lb _ HN.out HLB.out) ?_
                rintro u1 w2 ⟨A12, c12, rfl, hC12, hb⟩
                have HC12 := Aside0.mk hC12
                have HTW := Aside0.mk ((hb.block _ (blk_lt HTW.out)).trans HTW.out)
                have HW := Aside0.mk (below_step HW.out hb)
                clear hb hC12
                refine hK.out _ _ (HTW.out) (fun hHeld => ?_)
                clear hK K
                try simp only [Act.put, List.setIfInBounds_toArray, List.set_cons_zero, List.set_cons_succ]
                refine wpAnyH_ready (rs := [20]) (by kernel_rfl) (by simp) ?_
                refine AllReadyH.cons (o := { dst := some 113, op := Go.Op.call { callee := Go.Callee.value (Go.Operand.func 26), args := #[Go.Operand.tmp 111, Go.Operand.tmp 112], argTypes := #[32, 32] }, type := 4, pos := "law.go:90", after := #[{ on := 18, ground := Go.Ground.data }, { on := 19, ground := Go.Ground.data }, { on := 18, ground := Go.Ground.chain }, { on := 16, ground := Go.Ground.guard }], guard := some (16, true) }) rfl (fun K hK => ?_) AllReadyH.nil
                refine step_call2 (f := 26) (x := .tmp 111) (y := .tmp 112) (v := .slice A12 lb.length c12) (u := .slice Ab lb.length cb) (by rfl) rfl rfl rfl enter26 (same_v A12 c12 lb Ab cb _ HC12.out (Kd.C_below HCb.out HW.out)) ?_
                rintro u1 w2 ⟨rfl, hb⟩
                have HTW := Aside0.mk ((hb.block _ (blk_lt HTW.out)).trans HTW.out)
                have HW := Aside0.mk (below_step HW.out hb)
                clear hb
                refine hK.out _ _ (HTW.out) (fun hHeld => ?_)
                clear hK K
                try simp only [Act.put, List.setIfInBounds_toArray, List.set_cons_zero, List.set_cons_succ]
                refine wpAnyH_take (i := 21) (oi := { dst := some 114, op := Go.Op.pick (Go.Operand.tmp 109) (Go.Operand.tmp 113) (Go.Operand.const (Go.Value.bool false)), type := 4, pos := "law.go:90", after := #[{ on := 16, ground := Go.Ground.data }, { on := 20, ground := Go.Ground.data }], guard := none }) (v := ?_) rfl (by kernel_rfl) (by kernel_rfl) (by kernel_rfl) (fun _ _ _ h => h) (Or.inl ⟨by rfl, ?_⟩) hHeld ?_
                rotate_left
                · intro w hSw; go_simp; with_reducible rfl
                try simp only [Act.put, List.setIfInBounds_toArray, List.set_cons_zero, List.set_cons_succ]
                refine wpAnyH_take (i := 22) (oi := { dst := some 4, op := Go.Op.assign (Go.Operand.tmp 114), type := 4, pos := "law.go:90", after := #[{ on := 21, ground := Go.Ground.data }, { on := 20, ground := Go.Ground.chain }, { on := 0, ground := Go.Ground.phase }, { on := 1, ground := Go.Ground.phase }, { on := 2, ground := Go.Ground.phase }, { on := 3, ground := Go.Ground.phase }, { on := 4, ground := Go.Ground.phase }, { on := 5, ground := Go.Ground.phase }, { on := 6, ground := Go.Ground.phase }, { on := 7, ground := Go.Ground.phase }, { on := 8, ground := Go.Ground.phase }, { on := 9, ground := Go.Ground.phase }, { on := 10, ground := Go.Ground.phase }, { on := 11, ground := Go.Ground.phase }, { on := 12, ground := Go.Ground.phase }, { on := 13, ground := Go.Ground.phase }, { on := 14, ground := Go.Ground.phase }, { on := 15, ground := Go.Ground.phase }, { on := 16, ground := Go.Ground.phase }, { on := 17, ground := Go.Ground.phase }, { on := 18, ground := Go.Ground.phase }, { on := 19, ground := Go.Ground.phase }, { on := 20, ground := Go.Ground.phase }, { on := 21, ground := Go.Ground.phase }], guard := none }) (v := ?_) rfl (by kernel_rfl) (by kernel_rfl) (by kernel_rfl) (fun _ _ _ h => h) (Or.inl ⟨by rfl, ?_⟩) hHeld ?_
                rotate_left
                · intro w hSw; go_simp; with_reducible rfl
                try simp only [Act.put, List.setIfInBounds_toArray, List.set_cons_zero, List.set_cons_succ]
                refine wpAnyH_done (by kernel_rfl) ?_ _
                refine NoPanic.normal ?_
                clear hzb
                go_wp2
                go_ret
                exact ⟨rfl, HW.out⟩
theorem ShaNamed_walk (A0 : Option Addr) (c0 : Nat) (l0 : List Int) (x1 : Int) (w : World)
    (hr0 : Kd.C (Kd.int .u8) w A0 l0.length l0) (hc0 : l0.length ≤ c0) (hw0 : ∀ x ∈ l0, (Lit.int .u8 x).wf = true) (hb0 : l0.length * 1 ≤ 140737488351232)
    (hw1 : (Lit.int .i64 x1).wf = true) :
    Calls Try.prog 9 #[.slice A0 l0.length c0, .int .i64 x1] w fun e w' => e = .returned (.bool true) ∧ Below w.heap.size w w' :=
  ShaNamed_core A0 c0 l0 x1 w hr0 hc0 (by omega)
end Go.Proofs.Ytcpcellocnojcaa

import Derived.Test.YtcpcellocnojcaaShaHexW
import Derived.Lib.BytesEntry
namespace Go.Proofs.Ytcpcellocnojcaa
open Go Go.RowKit Go.Proofs.YtcpcellocnojcaaW.PrintWords
set_option linter.unusedVariables false
set_option linter.unusedSimpArgs false

/-- The order of lists. -/
def cmpI : List Int → List Int → Int
  | [], [] => 0
  | [], _ :: _ => -1
  | _ :: _, [] => 1
  | x :: a, y :: b => if x < y then -1 else if y < x then 1 else cmpI a b
theorem cmpI_vals : ∀ a b : List Int, cmpI a b = -1 ∨ cmpI a b = 0 ∨ cmpI a b = 1
  | [], [] => by simp [cmpI]
  | [], _ :: _ => by simp [cmpI]
  | _ :: _, [] => by simp [cmpI]
  | x :: a, y :: b => by
    simp only [cmpI]
    split
    · simp
    · split
      · simp
      · exact cmpI_vals a b
theorem cmpI_zero : ∀ a b : List Int, cmpI a b = 0 ↔ a = b
  | [], [] => by simp [cmpI]
  | [], _ :: _ => by simp [cmpI]
  | _ :: _, [] => by simp [cmpI]
  | x :: a, y :: b => by
    simp only [cmpI, List.cons.injEq]
    split
    · rename_i h; constructor
      · intro h'; omega
      · rintro ⟨h', _⟩; omega
    · split
      · rename_i h; constructor
        · intro h'; omega
        · rintro ⟨h', _⟩; omega
      · rw [cmpI_zero a b]
        constructor
        · intro h; exact ⟨by omega, h⟩
        · rintro ⟨_, h⟩; exact h
theorem cmpI_swap : ∀ a b : List Int, cmpI b a = - cmpI a b
  | [], [] => by simp [cmpI]
  | [], _ :: _ => by simp [cmpI]
  | _ :: _, [] => by simp [cmpI]
  | x :: a, y :: b => by
    simp only [cmpI]
    by_cases h1 : x < y
    · rw [if_neg (by omega), if_pos h1, if_pos h1]; rfl
    · by_cases h2 : y < x
      · rw [if_pos h2, if_neg h1, if_pos h2]
      · rw [if_neg h2, if_neg h1, if_neg h1, if_neg h2, cmpI_swap a b]
theorem cmpI_app : ∀ p a b : List Int, cmpI (p ++ a) (p ++ b) = cmpI a b
  | [], a, b => rfl
  | x :: p, a, b => by simp only [List.cons_append, cmpI, Int.lt_irrefl, if_false, cmpI_app p a b]
theorem cmpI_at (a b : List Int) (i : Nat) (ha : i < a.length) (hb : i < b.length) (ht : a.take i = b.take i) :
    (rd a i < rd b i → cmpI a b = -1) ∧ (rd b i < rd a i → cmpI a b = 1) := by
  have e1 : a = a.take i ++ (rd a i :: a.drop (i + 1)) := by
    rw [show rd a i = a[i] from by simp [rd, ha], ← List.drop_eq_getElem_cons ha, List.take_append_drop]
  have e2 : b = a.take i ++ (rd b i :: b.drop (i + 1)) := by
    rw [ht, show rd b i = b[i] from by simp [rd, hb], ← List.drop_eq_getElem_cons hb, List.take_append_drop]
  have e : cmpI a b = cmpI (rd a i :: a.drop (i + 1)) (rd b i :: b.drop (i + 1)) := by
    conv => lhs; rw [e1, e2]
    rw [cmpI_app]
  constructor
  · intro h; rw [e]; simp [cmpI, h]
  · intro h; rw [e]; simp only [cmpI]; rw [if_neg (by omega), if_pos h]
theorem u8_lt (x y : Int) (hx : 0 ≤ x ∧ x < 256) (hy : 0 ≤ y ∧ y < 256) : UInt8.ofNat x.toNat < UInt8.ofNat y.toNat ↔ x < y := by
  rw [UInt8.lt_iff_toNat_lt]
  simp only [UInt8.toNat_ofNat']
  omega
theorem u8_eq (x y : Int) (hx : 0 ≤ x ∧ x < 256) (hy : 0 ≤ y ∧ y < 256) : UInt8.ofNat x.toNat = UInt8.ofNat y.toNat ↔ x = y := by
  rw [← UInt8.toNat_inj]
  simp only [UInt8.toNat_ofNat']
  omega
theorem compare_cmpI : ∀ a b : List Int, (∀ x ∈ a, 0 ≤ x ∧ x < 256) → (∀ x ∈ b, 0 ≤ x ∧ x < 256) → Lib.compareBytes (Lib.bytesOf a) (Lib.bytesOf b) = cmpI a b
  | [], [], _, _ => rfl
  | [], _ :: _, _, _ => rfl
  | _ :: _, [], _, _ => rfl
  | x :: a, y :: b, ha, hb => by
    have hx := ha x (by simp)
    have hy := hb y (by simp)
    have ih := compare_cmpI a b (fun z hz => ha z (List.mem_cons_of_mem _ hz)) (fun z hz => hb z (List.mem_cons_of_mem _ hz))
    simp only [Lib.bytesOf, List.map_cons, Lib.compareBytes, cmpI, u8_lt x y hx hy, u8_lt y x hy hx] at ih ⊢
    rw [ih]
theorem dig_lt (n m : Int) (hn : 0 ≤ n ∧ n < 16) (hm : 0 ≤ m ∧ m < 16) : rd dig n < rd dig m ↔ n < m := by
  have key : ∀ n m : Fin 16, rd dig (n : Nat) < rd dig (m : Nat) ↔ (n : Nat) < (m : Nat) := by decide +kernel
  have := key ⟨n.toNat, by omega⟩ ⟨m.toNat, by omega⟩
  simp only at this
  rw [show ((n.toNat : Nat) : Int) = n by omega, show ((m.toNat : Nat) : Int) = m by omega] at this
  rw [this]; omega
theorem dig_eq (n m : Int) (hn : 0 ≤ n ∧ n < 16) (hm : 0 ≤ m ∧ m < 16) : rd dig n = rd dig m ↔ n = m := by
  have h1 := dig_lt n m hn hm
  have h2 := dig_lt m n hm hn
  constructor
  · intro h; omega
  · intro h; rw [h]
theorem strOf_list (l : List Int) : (strOfNums l).toList = Lib.bytesOf l := by
  rw [ByteArray.toList_eq]; simp [strOfNums, Lib.bytesOf]
theorem less_hex : ∀ a b : List Int, a.length = b.length → (∀ x ∈ a, 0 ≤ x ∧ x < 256) → (∀ x ∈ b, 0 ≤ x ∧ x < 256) → Op.bytesLess (Lib.bytesOf (hexL a)) (Lib.bytesOf (hexL b)) = decide (cmpI a b < 0)
  | [], [], _, _, _ => by simp [hexL, Lib.bytesOf, Op.bytesLess, cmpI]
  | [], _ :: _, h, _, _ => by simp at h
  | _ :: _, [], h, _, _ => by simp at h
  | x :: a, y :: b, h, ha, hb => by
    have hx := ha x (by simp)
    have hy := hb y (by simp)
    have ih := less_hex a b (by simpa using h) (fun z hz => ha z (List.mem_cons_of_mem _ hz)) (fun z hz => hb z (List.mem_cons_of_mem _ hz))
    have b1 := dig_byte (x / 16) (by omega) (by omega)
    have b2 := dig_byte (x % 16) (by omega) (by omega)
    have b3 := dig_byte (y / 16) (by omega) (by omega)
    have b4 := dig_byte (y % 16) (by omega) (by omega)
    simp only [Lib.bytesOf] at ih
    simp only [hexL, Lib.bytesOf, List.map_cons, Op.bytesLess, ih]
    rw [Bool.eq_iff_iff]
    simp only [Bool.or_eq_true, Bool.and_eq_true, decide_eq_true_eq, beq_iff_eq, u8_lt _ _ b1 b3, u8_lt _ _ b2 b4, u8_eq _ _ b1 b3, u8_eq _ _ b2 b4,
      dig_lt (x / 16) (y / 16) (by omega) (by omega), dig_lt (x % 16) (y % 16) (by omega) (by omega), dig_eq (x / 16) (y / 16) (by omega) (by omega), dig_eq (x % 16) (y % 16) (by omega) (by omega)]
    by_cases h1 : x < y
    · rw [show cmpI (x :: a) (y :: b) = -1 from if_pos h1]; constructor
      · intro _; omega
      · intro _; rcases Int.lt_or_le (x / 16) (y / 16) with h | h
        · exact .inl h
        · exact .inr ⟨by omega, .inl (by omega)⟩
    · by_cases h2 : y < x
      · rw [show cmpI (x :: a) (y :: b) = 1 by simp [cmpI, h1, h2]]; constructor
        · rintro (h | ⟨h, h' | ⟨h', _⟩⟩) <;> omega
        · intro h; omega
      · rw [show cmpI (x :: a) (y :: b) = cmpI a b by simp [cmpI, h1, h2]]; constructor
        · rintro (h | ⟨h, h' | ⟨h', h''⟩⟩)
          · omega
          · omega
          · exact h''
        · intro h; exact .inr ⟨by omega, .inr ⟨by omega, h⟩⟩

/-- internal/bytealg.Compare at two slices. -/
theorem run_compare (w : World) (A B : Addr) (ca cb : Nat) (a b : List Int) (ha : (Kd.int .u8).C w (some A) a.length a) (hb : (Kd.int .u8).C w (some B) b.length b)
    (wa : ∀ x ∈ a, 0 ≤ x ∧ x < 256) (wb : ∀ x ∈ b, 0 ≤ x ∧ x < 256) :
    (Extern.BytealgCompare.compare #[.slice (some A) a.length ca, .slice (some B) b.length cb]).run Try.prog w = .ok (.int .i64 (cmpI a b)) w := by
  have ld : ∀ (A : Addr) (l : List Int), (Kd.int .u8).C w (some A) l.length l → (Extern.Bytes.loadBytes A l.length .empty).run Try.prog w = .ok ⟨(Lib.bytesOf l).toArray⟩ w := fun A l h => by
    have := Lib.run_loadBytesX (P := Try.prog) w l A .empty (fun j x hj => by
      have hjl : j < l.length := (List.getElem?_eq_some_iff.1 hj).1
      obtain ⟨ad, e, hx⟩ := at_nat h j hjl
      injection e with e
      subst e
      rw [hx]
      simp [rd, List.getD_eq_getElem?_getD, hj])
    rw [this]
    congr 1
    apply ByteArray.ext
    show (#[] : Array UInt8) ++ _ = _
    simp
  change Sem.run Try.prog (do pure (goInt (Extern.BytealgCompare.cmp (← Extern.Bytes.bytesOf (.slice (some A) a.length ca)) (← Extern.Bytes.bytesOf (.slice (some B) b.length cb))))) w = _
  simp only [Extern.Bytes.bytesOf, Sem.run_bind, Sem.run_pure, Result.andThen, ld A a ha, ld B b hb]
  rw [Lib.cmp_eq]
  show Result.ok (Value.int .i64 (Lib.compareBytes (Lib.bytesOf a) (Lib.bytesOf b))) w = _
  rw [compare_cmpI a b wa wb]
theorem compare_any (A B : Addr) (ca cb : Nat) (a b : List Int) (w : World) (ha : (Kd.int .u8).C w (some A) a.length a) (hb : (Kd.int .u8).C w (some B) b.length b)
    (wa : ∀ x ∈ a, 0 ≤ x ∧ x < 256) (wb : ∀ x ∈ b, 0 ≤ x ∧ x < 256) :
    Calls Try.prog 31 #[.slice (some A) a.length ca, .slice (some B) b.length cb] w fun e w' => e = .returned (.int .i64 (cmpI a b)) ∧ w' = w := by
  have hc := run_compare w A B ca cb a b ha hb wa wb
  have HC := Aside0.mk hc
  clear hc
  go_enter Try.func31, Try.ntmps31
  go_wp2
  rw [run_callFunc_extern Try.func46 (by kernel_rfl) (by kernel_rfl) (by kernel_rfl) (e := Extern.BytealgCompare.compare) (by kernel_rfl), HC.out]
  simp only [Result.andThen]
  rw [Oper.upon_value]
  go_wp2
  go_ret
  exact ⟨rfl, rfl⟩
end Go.Proofs.Ytcpcellocnojcaa

import Derived.Test.YtcpcellocnojcaaOwn
import Derived.Lib.AppendStr
import Derived.Deep.RegionLaw
namespace Go.Proofs.Ytcpcellocnojcaa
open Go.RowKit Go.Proofs.YtcpcellocnojcaaW.PrintWords
set_option linter.unusedVariables false
set_option linter.unusedSimpArgs false
set_option maxRecDepth 8000

theorem own_int_of_R {e : Nat} {w : World} {base : Nat} {ok : Nat → Prop} {v : Value} {xs : List Int} (h : (Kd.int .u8).R e w base ok v xs) : w.ownsRow base e 1 v xs.length (encs (Value.int .u8) xs) := Kd.own_of_R h
/-- append of a row of bytes: what the run comes to. -/
theorem run_app {W : World} {base : Nat} (ty : TypeId) (v : Value) (xs ys : List Int) (A : Option Addr) (m c : Nat)
    (HO0 : (Kd.int .u8).R 5 W base (fun _ => True) v xs) (HR0 : (Kd.int .u8).C W A m ys) (hbase : base ≤ W.heap.size) (hl : xs.length + m ≤ 140737488355328) :
    ∃ v1 w1, (Builtin.append_ #[32, 32] ty #[v, .slice A m c]).run Try.prog W = .ok v1 w1 ∧ (Kd.int .u8).R 5 w1 base (fun _ => True) v1 (xs ++ ys) ∧ W.grownBy w1 v.ownBlock := by
  have HO := own_int_of_R HO0
  have HR : ReadsOf (Value.int .u8) (0 : Int) W A m ys := Kd.reads_of_C HR0
  obtain ⟨i0, hi, hzz⟩ := Option.map_eq_some_iff.1 info5
  simp only [Prod.mk.injEq] at hzz
  obtain ⟨hz0, hz1, hz2⟩ := hzz
  have ht := Try.underlying32
  have hm : ys.length = m := HR.1
  have hrun : ∃ v1 w1, (Builtin.append_ #[32, 32] ty #[v, .slice A m c]).run Try.prog W = .ok v1 w1 ∧ w1.ownsRow base 5 1 v1 (xs ++ ys).length (encs (Value.int .u8) (xs ++ ys)) ∧ W.grownBy w1 v.ownBlock := by
    rcases A with _ | ad
    · have h0 : m = 0 := by
        rcases Nat.eq_zero_or_pos m with h0 | h0
        · exact h0
        · obtain ⟨ad, h, _⟩ := HR.2.2 h0
          cases h
      subst h0
      obtain rfl : ys = [] := List.eq_nil_of_length_eq_zero hm
      refine ⟨v, W, ?_, by simpa using HO, World.grownBy.refl W _⟩
      rcases HO.2 with ⟨rfl, hn⟩ | ⟨g, cap, cur, rfl, _, _, hnc, _⟩
      · simp [Builtin.append_, run_underlying ht, sizeOf, typeInfo, hi, Builtin.lenOf, Builtin.firstCells]
      · simp [Builtin.append_, run_underlying ht, sizeOf, typeInfo, hi, Builtin.lenOf, Builtin.firstCells, hnc, storeCells]
    · have hcells : ∀ j u, (encs (Value.int .u8) ys)[j]? = some u → W.cell? (ad.add j) = some u := by
        intro j u hu
        have hj : j < ys.length := by
          rcases Nat.lt_or_ge j ys.length with h | h
          · exact h
          · simp [encs, List.getElem?_eq_none h] at hu
        obtain ⟨ad', h', hc⟩ := HR.2.2 (by omega)
        injection h' with h'
        subst h'
        rw [encs_get (d := (0 : Int)) ys j hj] at hu
        rw [← hu]
        exact hc j (by omega)
      obtain ⟨v1, w1, hr, hown, hg, _, _⟩ := run_append_own_at (P := Try.prog) W base 32 ty 5 i0 (.int .u8 0) 1 1 ht hi hz0 hz1 hz2 rfl (by decide) v xs.length (encs (Value.int .u8) xs) HO ad m c (encs (Value.int .u8) ys) (by simp [encs, hm]) hcells (fun u hu => by
        obtain ⟨x, _, rfl⟩ := List.mem_map.1 hu
        rfl) (by simp only [maxLen]; omega) (by omega) hbase
      exact ⟨v1, w1, hr, by rw [List.length_append, hm, encs_append]; exact hown, hg⟩
  obtain ⟨v1, w1, hr, hown, hg⟩ := hrun
  exact ⟨v1, w1, hr, Kd.R_of_own hown (fun _ _ => trivial), hg⟩

theorem bytesOf_cells (s : ByteArray) : encs (Value.int .u8) (bytesOf s) = Lib.strCells s := by
  unfold encs bytesOf Lib.strCells
  rw [List.map_map]; rfl
/-- append of a string's bytes. -/
theorem run_app_str {W : World} {base : Nat} (ty : TypeId) (v : Value) (xs : List Int) (s : ByteArray)
    (HO0 : (Kd.int .u8).R 5 W base (fun _ => True) v xs) (hbase : base ≤ W.heap.size) (hl : xs.length + s.size ≤ 140737488355328) :
    ∃ v1 w1, (Builtin.append_ #[32, 9] ty #[v, .string s]).run Try.prog W = .ok v1 w1 ∧ (Kd.int .u8).R 5 w1 base (fun _ => True) v1 (xs ++ bytesOf s) ∧ W.grownBy w1 v.ownBlock := by
  have HO := own_int_of_R HO0
  obtain ⟨i0, hi, hzz⟩ := Option.map_eq_some_iff.1 info5
  simp only [Prod.mk.injEq] at hzz
  obtain ⟨hz0, hz1, hz2⟩ := hzz
  obtain ⟨v1, w1, hr, hown, hg, _⟩ := Lib.run_append_own_string (P := Try.prog) W base 32 9 ty 5 i0 Try.underlying32 Try.underlying9 hi hz0 hz1 hz2 v xs.length _ HO s (by simp only [maxLen]; omega) hl hbase
  refine ⟨v1, w1, hr, Kd.R_of_own ?_ (fun _ _ => trivial), hg⟩
  rw [List.length_append, bytesOf_length, encs_append, bytesOf_cells]
  exact hown

section
variable {ops : Array Oper} {rest : List Oper} {o : Oper} {a : Act} {Q : Exit → Act → World → Prop} {K : Act → World → Prop}
theorem app_str {w0 W : World} {base : Nat} (hgd : o.guard = none) (s x : Operand)
    (ho : o.op = .call { callee := .builtin .append, args := #[s, x], argTypes := #[32, 9] })
    (v : Value) (xs : List Int) (t : ByteArray) (hs : a.eval s = v) (hx : a.eval x = .string t)
    (HO : (Kd.int .u8).R 5 W base (fun _ => True) v xs) (HB : Below base w0 W) (hbase : base ≤ W.heap.size) (hl : xs.length + t.size ≤ 140737488355328)
    (h : ∀ v1 w1, (Kd.int .u8).R 5 w1 base (fun _ => True) v1 (xs ++ bytesOf t) → Below base w0 w1 → W.grownBy w1 v.ownBlock → wpList Try.prog ops Q rest (a.put o.dst v1) w1) :
    wpList Try.prog ops Q (o :: rest) a W := by
  refine wpList_plain hgd fun K hK => ?_
  obtain ⟨v1, w1, hr, h1, hg⟩ := run_app_str o.type v xs t HO hbase hl
  unfold Oper.wp execOp
  simp only [ho, resolve, invoke, builtin, Sem.run_bind, Sem.run_pure, Result.andThen_ok, List.map_toArray, List.map_cons, List.map_nil, hs, hx, hr]
  exact hK _ _ (h v1 w1 h1 (HB.grown hg hbase (own_base (own_int_of_R HO))) hg)
/-- the same in a region that draws its order -/
theorem step_row {w0 W : World} {base : Nat} {E : Prop} (hgd : o.guard = none) (s x : Operand)
    (ho : o.op = .call { callee := .builtin .append, args := #[s, x], argTypes := #[32, 32] })
    (v : Value) (xs ys : List Int) (A : Option Addr) (m c : Nat) (hs : a.eval s = v) (hx : a.eval x = .slice A m c)
    (HO : (Kd.int .u8).R 5 W base (fun _ => True) v xs) (HR : (Kd.int .u8).C W A m ys) (HB : Below base w0 W) (hbase : base ≤ W.heap.size) (hl : xs.length + m ≤ 140737488355328)
    (h : ∀ v1 w1, (Kd.int .u8).R 5 w1 base (fun _ => True) v1 (xs ++ ys) → Below base w0 w1 → W.grownBy w1 v.ownBlock → K (a.put o.dst v1) w1) :
    if Region.wanted o (yielded ops a.tmps) = true then Oper.wp Try.prog o a W K Q else E := by
  have hw : Region.wanted o (yielded ops a.tmps) = true := by simp [Region.wanted, hgd]
  rw [if_pos hw]
  obtain ⟨v1, w1, hr, h1, hg⟩ := run_app o.type v xs ys A m c HO HR hbase hl
  unfold Oper.wp execOp
  simp only [ho, resolve, invoke, builtin, Sem.run_bind, Sem.run_pure, Result.andThen_ok, List.map_toArray, List.map_cons, List.map_nil, hs, hx, hr]
  exact h v1 w1 h1 (HB.grown hg hbase (own_base (own_int_of_R HO))) hg
theorem enter_of {P : Program} {f : FuncId} {fn : Func} (hf : P.funcs[f]? = some fn) (hb : fn.body.isNone = false) (hn : (fn.name == "runtime.NumGoroutine") = false) (vs : Array Value) (W : World) : (callFunc f vs).run P W = .ok (.enter f vs) W := by
  simp only [callFunc, Sem.run_bind, run_program, Result.andThen_ok, hf, hn, hb]
  rfl
/-- a call of a Go function, in a region that draws its order -/
theorem step_call {W : World} {E : Prop} {f : FuncId} {xs : Array Operand} {tys : Array TypeId} {vs : Array Value} {R : Value → World → Prop} (hw : Region.wanted o (yielded ops a.tmps) = true)
    (ho : o.op = .call { callee := .value (.func f), args := xs, argTypes := tys }) (hxs : xs.map a.eval = vs)
    (hcf : ∀ vs W, (callFunc f vs).run Try.prog W = .ok (.enter f vs) W)
    (hc : Calls Try.prog f vs W fun e w' => ∃ u, e = .returned u ∧ R u w')
    (h : ∀ u w1, R u w1 → K (a.put o.dst u) w1) :
    if Region.wanted o (yielded ops a.tmps) = true then Oper.wp Try.prog o a W K Q else E := by
  rw [if_pos hw]
  have hf : a.eval (.func f) = .func (.func f) #[] #[] := rfl
  have hrun : (execOp a.eval o).run Try.prog W = .ok (.enter f vs) W := by
    unfold execOp
    simp only [ho]
    simp [resolve, invoke, hf, hxs, Deferred.ofValue, hcf]
  unfold Oper.wp
  rw [hrun, Oper.upon_enter]
  refine hc.mono ?_
  rintro e w' ⟨u, rfl, hR⟩
  exact h u w' hR
theorem step_call1 {W : World} {E : Prop} {f : FuncId} {x : Operand} {tys : Array TypeId} {v : Value} {R : Value → World → Prop} (hw : Region.wanted o (yielded ops a.tmps) = true)
    (ho : o.op = .call { callee := .value (.func f), args := #[x], argTypes := tys }) (hx : a.eval x = v)
    (hcf : ∀ vs W, (callFunc f vs).run Try.prog W = .ok (.enter f vs) W)
    (hc : Calls Try.prog f #[v] W fun e w' => ∃ u, e = .returned u ∧ R u w')
    (h : ∀ u w1, R u w1 → K (a.put o.dst u) w1) :
    if Region.wanted o (yielded ops a.tmps) = true then Oper.wp Try.prog o a W K Q else E := step_call hw ho (by simp [hx]) hcf hc h
theorem step_call2 {W : World} {E : Prop} {f : FuncId} {x y : Operand} {tys : Array TypeId} {v u : Value} {R : Value → World → Prop} (hw : Region.wanted o (yielded ops a.tmps) = true)
    (ho : o.op = .call { callee := .value (.func f), args := #[x, y], argTypes := tys }) (hx : a.eval x = v) (hy : a.eval y = u)
    (hcf : ∀ vs W, (callFunc f vs).run Try.prog W = .ok (.enter f vs) W)
    (hc : Calls Try.prog f #[v, u] W fun e w' => ∃ u, e = .returned u ∧ R u w')
    (h : ∀ u w1, R u w1 → K (a.put o.dst u) w1) :
    if Region.wanted o (yielded ops a.tmps) = true then Oper.wp Try.prog o a W K Q else E := step_call hw ho (by simp [hx, hy]) hcf hc h
end
end Go.Proofs.Ytcpcellocnojcaa

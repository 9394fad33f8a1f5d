import Derived.Test.YteghldapcfkekaaKInv
import Derived.Test.YteghldapcfkekaaKStep
import Derived.ArgAppend
namespace Go.Proofs.YteghldapcfkekaaK
open Go.RowKit
set_option linter.unusedSimpArgs false
set_option linter.unusedVariables false
section
variable {P : Program} {o : Oper} {s : Nat → Value} {w : World} {K : Value → World → Prop}
theorem stepS_move (x : Operand) (ho : o.op = .move x) (h : K (evS s x) w) : StepS P o s w K := by
  unfold StepS execOp; simp only [ho]; exact h
theorem stepS_assign (x : Operand) (ho : o.op = .assign x) (h : K (evS s x) w) : StepS P o s w K := by
  unfold StepS execOp; simp only [ho]; exact h
theorem stepS_load {ty : TypeId} {x : Operand} (ho : o.op = .load ty x) {b : Nat} {L : List Value} {d : TypeDesc} (hx : evS s x = .pointer (some ⟨b, 0, none⟩)) (hA : Arr w b L)
    (hu : P.underlying ty = some d) (hd : d.isRow = true) (hi : (P.info? ty).map (·.size) = some L.length) (h : K (.agg L.toArray) w) : StepS P o s w K := by
  unfold StepS execOp
  simp only [ho, hx, Instr.loadAt, Instr.sureAddr, Sem.run_bind, Sem.run_pure, Result.andThen_ok, run_loadVar_mid w b 0 ty L d hA.1 hu hd hi]
  exact h
theorem stepS_call {fn : Func} {f : FuncId} {args : Array Operand} {ts : Array TypeId} (ho : o.op = .call { callee := .value (.func f), args := args, argTypes := ts }) (hf : P.funcs[f]? = some fn) (hn : (fn.name == "runtime.NumGoroutine") = false) (hb : fn.body.isSome = true) (vs : Array Value) (hv : args.map (evS s) = vs)
    (h : Calls P f vs w fun e w'' => ∃ u, e = .returned u ∧ K u w'') : StepS P o s w K := by
  unfold StepS execOp
  simp only [ho]
  subst hv
  have hn' : ¬ fn.name = "runtime.NumGoroutine" := by simpa using hn
  have hb' : ¬ fn.body = none := by intro h0; rw [h0] at hb; cases hb
  simpa [resolve, invoke, evS, Deferred.ofValue, callFunc, Sem.run_bind, Result.andThen, hf, hn', hb'] using h
theorem stepS_alloc {t : TypeId} (ho : o.op = .alloc t) {z : Value} (hz : (zeroValue t).run P w = .ok z w) (h : K (.pointer (some ⟨w.heap.size, 0, none⟩)) (w.alloc (.cells z.cells t))) : StepS P o s w K := by
  unfold StepS execOp
  simp only [ho]
  simp [Instr.alloc, Sem.run_bind, hz, Result.andThen, newVar, newRow, run_newObj]
  exact h
theorem stepS_empty {t e : TypeId} {i : TypeInfo} (ho : o.op = .buildSlice t 0 #[]) (ht : P.underlying t = some (.slice e)) (hi : P.info? e = some i) (h : K (.slice (some ⟨w.heap.size, 0, none⟩) 0 0) (w.alloc (.cells #[] e))) : StepS P o s w K := by
  unfold StepS execOp
  simp only [ho]
  simp [Instr.buildSlice, Sem.run_bind, Result.andThen, run_underlying ht, sizeOf, typeInfo, hi, Instr.fill, newRow, run_newObj]
  have e0 : (Array.range 0).map (fun _ => (default : Value)) = #[] := by simp
  first
    | exact h
    | (rw [e0]; exact h)
    | (simpa using h)
theorem stepS_one {t e : TypeId} {i : TypeInfo} {x : Operand} {v : Value} (ho : o.op = .buildSlice t 1 #[(0, x)]) (ht : P.underlying t = some (.slice e)) (hi : P.info? e = some i) (hs : i.size = 1) (hx : evS s x = v) (h1 : v.cells = #[v]) {z : Value} (hz : (zeroValue e).run P w = .ok z w)
    (h : K (.slice (some ⟨w.heap.size, 0, none⟩) 1 1) (w.alloc (.cells #[v] e))) : StepS P o s w K := by
  unfold StepS execOp
  simp only [ho]
  simp [Instr.buildSlice, Sem.run_bind, Result.andThen, run_underlying ht, sizeOf, typeInfo, hi, hs, hx, h1, hz, Instr.fill, newRow, run_newObj]
  have e1 : ((Array.range 1).map (fun x => z.cells[x % z.cells.size]!)).setIfInBounds 0 v = #[v] := by
    apply Array.ext
    · simp
    · intro j hj1 hj2
      simp at hj1
      subst hj1
      simp
  rw [e1]
  exact h
theorem below_of_none {w w1 : World} (hg : w.grownBy w1 none) : Below w.heap.size w w1 :=
  (Below.refl w.heap.size w).grown hg (Nat.le_refl _) (fun k hk => by cases hk)
/-- append onto an empty slice that has no room. -/
theorem stepS_append {x y : Operand} {t e : TypeId} {z : Value} {size bytes : Nat} (ho : o.op = .call { callee := .builtin .append, args := #[x, y], argTypes := #[t, t] })
    (ht : P.underlying t = some (.slice e)) (hinfo : (P.info? e).map (fun i => (i.zero, i.size, i.bytes)) = some (some z, size, bytes)) (hz : z.cells.size = size) (hs0 : 0 < size) (hb0 : 0 < bytes)
    (b : Nat) (hx : evS s x = .slice (some ⟨b, 0, none⟩) 0 0) (A : Option Addr) (m c : Nat) (ys : List Value) (hy : evS s y = .slice A m c) (hA : At w A ys) (hm : ys.length = m * size) (h1 : ∀ u ∈ ys, u.oneCell' = true) (hl : m * bytes ≤ 140737488355328)
    (h : ∀ A' c' w', At w' A' ys → m ≤ c' → c' ≤ maxLen → Below w.heap.size w w' → K (.slice A' m c') w') : StepS P o s w K := by
  obtain ⟨i, hi, hzz⟩ := Option.map_eq_some_iff.1 hinfo
  simp only [Prod.mk.injEq] at hzz
  obtain ⟨hz0, hz1, hz2⟩ := hzz
  have hrun : ∃ A' c' w', (Builtin.append_ #[t, t] o.type #[.slice (some ⟨b, 0, none⟩) 0 0, .slice A m c]).run P w = .ok (.slice A' m c') w' ∧ At w' A' ys ∧ m ≤ c' ∧ c' ≤ maxLen ∧ Below w.heap.size w w' := by
    by_cases h0 : m = 0
    · subst h0
      have hy0 : ys = [] := by
        rw [Nat.zero_mul] at hm; exact List.length_eq_zero_iff.1 hm
      subst hy0
      refine ⟨some ⟨b, 0, none⟩, 0, w, ?_, fun j u hu => by simp at hu, Nat.le_refl _, by decide, Below.refl _ _⟩
      rcases A with _ | ad
      · simp [Builtin.append_, run_underlying ht, sizeOf, typeInfo, hi, Builtin.lenOf, Builtin.firstCells, storeCells]
      · have := run_append_room_cells (P := P) w t o.type e i ht hi b 0 0 0 ad 0 c [] (by simp) (fun j u hu => by simp at hu) (fun u hu => by simp at hu) (Nat.le_refl _) (fun j hj => by simp at hj) (fun j hj => by simp at hj)
        simpa [World.setCells] using this
    · rcases A with _ | ad
      · exfalso
        have hp : 0 < ys.length := by rw [hm]; exact Nat.mul_pos (Nat.pos_of_ne_zero h0) hs0
        obtain ⟨a', h', _⟩ := hA 0 _ (List.getElem?_eq_getElem hp)
        cases h'
      · have hcells : ∀ j u, ys[j]? = some u → w.cell? (ad.add j) = some u := by
          intro j u hu
          obtain ⟨ad', h', hc⟩ := hA j u hu
          injection h' with h'
          subst h'
          exact hc
        have hlen : m ≤ 140737488355328 := Nat.le_trans (Nat.le_mul_of_pos_right _ hb0) hl
        obtain ⟨v', w', hr, ho', hg⟩ := run_append_arg_grows (P := P) w t o.type e i z size bytes ht hi hz0 hz1 hz2 hz hs0 ⟨b, 0, none⟩ 0 0 [] (by simp) (fun j u hu => by simp at hu) ad m c ys hm hcells (by omega) (by simp only [maxLen]; omega) (by rw [Nat.zero_add]; exact hl)
        rw [Nat.zero_add, List.nil_append] at ho'
        rcases ho'.2 with ⟨rfl, hn⟩ | ⟨g, cap, cur, rfl, _, _, hnc, hcm, _⟩
        · exact absurd hn h0
        · exact ⟨_, cap, w', hr, own_at ho', hnc, hcm, below_of_none hg⟩
  obtain ⟨A', c', w', hr, hat, hmc, hcm, hb⟩ := hrun
  unfold StepS execOp
  simp only [ho, resolve, invoke, builtin, Sem.run_bind, Sem.run_pure, Result.andThen_ok, List.map_toArray, List.map_cons, List.map_nil, hx, hy, hr]
  exact h A' c' w' hat hmc hcm hb
theorem stepG_plain {ops : Array Oper} {i : Nat} {dst : Nat → Nat} (hg : (ops.getD i default).guard = none) (h : StepS P (ops.getD i default) s w K) : StepG P ops i dst s w K := by
  unfold StepG; rw [hg]; exact h
theorem stepG_struck {ops : Array Oper} {i g : Nat} {b : Bool} {dst : Nat → Nat} (hg : (ops.getD i default).guard = some (g, b)) (hs : s (dst g) = .bool b) (h : StepS P (ops.getD i default) s w K) : StepG P ops i dst s w K := by
  unfold StepG; rw [hg]; exact .inl ⟨hs, h⟩
theorem stepG_not {ops : Array Oper} {i g : Nat} {b : Bool} {dst : Nat → Nat} (hg : (ops.getD i default).guard = some (g, b)) (hs : s (dst g) = .bool (!b)) (h : K undef w) : StepG P ops i dst s w K := by
  unfold StepG; rw [hg]; exact .inr ⟨.inl hs, h⟩
theorem stepG_undef {ops : Array Oper} {i g : Nat} {b : Bool} {dst : Nat → Nat} (hg : (ops.getD i default).guard = some (g, b)) (hs : s (dst g) = undef) (h : K undef w) : StepG P ops i dst s w K := by
  unfold StepG; rw [hg]; exact .inr ⟨.inr hs, h⟩
/-- An operation whose run is known. -/
theorem stepS_run {v : Value} (hr : (execOp (evS s) o).run P w = .ok (.value v) w) (h : K v w) : StepS P o s w K := by
  unfold StepS; rw [hr]; exact h
end
end Go.Proofs.YteghldapcfkekaaK

import Derived.Test.YteghldapcfkekaaKBsV
import Derived.Test.YteghldapcfkekaaKPackN
import Derived.Test.YteghldapcfkekaaKBox
import Derived.Lib.ConvBytes
namespace Go.Proofs.YteghldapcfkekaaK
open Go.RowKit
set_option linter.unusedSimpArgs false
set_option linter.unusedVariables false
/-! More steps for regions by invariants: slice literals of two and three, texts as bytes. -/
theorem zeroV {P : Program} {e : TypeId} {i : TypeInfo} (hi : P.info? e = some i) {z : Value} (hz : i.zero = some z) (w : World) : (zeroValue e).run P w = .ok z w := by
  simp [zeroValue, typeInfo, hi, hz]
section
variable {P : Program} {o : Oper} {s : Nat → Value} {w : World} {K : Value → World → Prop}
/-- An operation whose run is known, in another world. -/
theorem stepS_runw {v : Value} {w1 : World} (hr : (execOp (evS s) o).run P w = .ok (.value v) w1) (h : K v w1) : StepS P o s w K := by
  unfold StepS; rw [hr]; exact h
theorem stepS_two {t e : TypeId} {x y : Operand} {v u z : Value} (ho : o.op = .buildSlice t 2 #[(0, x), (1, y)]) (ht : P.underlying t = some (.slice e)) (hinfo : (P.info? e).map (fun i => (i.zero, i.size)) = some (some z, 1)) (hx : evS s x = v) (hy : evS s y = u) (h1 : v.cells = #[v]) (h2 : u.cells = #[u])
    (h : K (.slice (some ⟨w.heap.size, 0, none⟩) 2 2) (w.alloc (.cells #[v, u] e))) : StepS P o s w K := by
  obtain ⟨i, hi, hzz⟩ := Option.map_eq_some_iff.1 hinfo
  simp only [Prod.mk.injEq] at hzz
  obtain ⟨hz0, hs⟩ := hzz
  have hz := zeroV hi hz0 w
  unfold StepS execOp
  simp only [ho]
  simp [Instr.buildSlice, Sem.run_bind, Result.andThen, run_underlying ht, sizeOf, typeInfo, hi, hs, hx, hy, h1, h2, hz, Instr.fill, newRow, run_newObj]
  have e1 : (((Array.range 2).map (fun x => z.cells[x % z.cells.size]!)).setIfInBounds 0 v).setIfInBounds 1 u = #[v, u] := by
    apply Array.ext
    · simp
    · intro j hj1 hj2
      simp at hj1
      rcases (by omega : j = 0 ∨ j = 1) with rfl | rfl <;> simp [Array.getElem_setIfInBounds]
  rw [e1]
  exact h
theorem stepS_three {t e : TypeId} {x y q : Operand} {v u r z : Value} (ho : o.op = .buildSlice t 3 #[(0, x), (1, y), (2, q)]) (ht : P.underlying t = some (.slice e)) (hinfo : (P.info? e).map (fun i => (i.zero, i.size)) = some (some z, 1)) (hx : evS s x = v) (hy : evS s y = u) (hq : evS s q = r) (h1 : v.cells = #[v]) (h2 : u.cells = #[u]) (h3 : r.cells = #[r])
    (h : K (.slice (some ⟨w.heap.size, 0, none⟩) 3 3) (w.alloc (.cells #[v, u, r] e))) : StepS P o s w K := by
  obtain ⟨i, hi, hzz⟩ := Option.map_eq_some_iff.1 hinfo
  simp only [Prod.mk.injEq] at hzz
  obtain ⟨hz0, hs⟩ := hzz
  have hz := zeroV hi hz0 w
  unfold StepS execOp
  simp only [ho]
  simp [Instr.buildSlice, Sem.run_bind, Result.andThen, run_underlying ht, sizeOf, typeInfo, hi, hs, hx, hy, hq, h1, h2, h3, hz, Instr.fill, newRow, run_newObj]
  have e1 : ((((Array.range 3).map (fun x => z.cells[x % z.cells.size]!)).setIfInBounds 0 v).setIfInBounds 1 u).setIfInBounds 2 r = #[v, u, r] := by
    apply Array.ext
    · simp
    · intro j hj1 hj2
      simp at hj1
      rcases (by omega : j = 0 ∨ j = 1 ∨ j = 2) with rfl | rfl | rfl <;> simp [Array.getElem_setIfInBounds]
  rw [e1]
  exact h
end
theorem str_list (s : List UInt8) : (str s).data.toList = s := by unfold str; simp
theorem str_len (s : List UInt8) : (str s).size = s.length := by unfold str; simp [ByteArray.size]
theorem bytesWorld_below (w : World) (e : TypeId) (s : ByteArray) : Below w.heap.size w (Lib.bytesWorld w e s) :=
  ⟨rfl, rfl, rfl, by rw [Lib.bytesWorld_size]; omega, fun j hj => Lib.bytesWorld_at_old w e s j hj⟩
/-- '[]byte(s)'. -/
theorem run_conv_bs (s : List UInt8) (hs : s.length ≤ 9223372036854775807) (w : World) : ∃ v w1, (convert 9 30 (.string (str s))).run Try.prog w = .ok v w1 ∧ BsV s v w1 ∧ Below w.heap.size w w1 := by
  refine ⟨_, _, Lib.run_convert_string_bytes w _ _ 5 (str s) Try.underlying9 Try.underlying30 Try.underlying5, ?_, bytesWorld_below _ _ _⟩
  have hz : (str s).size = s.length := str_len s
  refine ⟨_, _, _, rfl, ⟨_, _, by rw [hz], by rw [← hz]; exact grownCap_ge _ _ _ _, hs, ?_⟩⟩
  intro j u hu
  rw [List.getElem?_map] at hu
  obtain ⟨b, hb, rfl⟩ := Option.map_eq_some_iff.1 hu
  obtain ⟨hj, rfl⟩ := List.getElem?_eq_some_iff.1 hb
  refine ⟨_, rfl, ?_⟩
  rw [show (⟨w.heap.size, 0, none⟩ : Addr).add j = ⟨w.heap.size, j, none⟩ from by unfold Addr.add; split <;> simp_all]
  rw [Lib.bytesWorld_cell w _ (str s) j (by rw [hz]; exact hj), str_list]
  simp [encB, List.getD, hj]
/-- A slice of whole numbers; a slice of slices of bytes. -/
def IsV (k : IntKind) (xs : List Int) (v : Value) (w : World) : Prop := ∃ A n c, v = .slice A n c ∧ Is k w (.slice A n c) xs
theorem IsV.below {k : IntKind} {xs : List Int} {v : Value} {w w' : World} (h : IsV k xs v w) (hb : Below w.heap.size w w') : IsV k xs v w' := by
  obtain ⟨A, n, c, h1, h2⟩ := h; exact ⟨A, n, c, h1, h2.below hb⟩
def BssV (xss : List (List UInt8)) (v : Value) (w : World) : Prop := ∃ A n c, v = .slice A n c ∧ Bss w (.slice A n c) xss
theorem BssV.below {xss : List (List UInt8)} {v : Value} {w w' : World} (h : BssV xss v w) (hb : Below w.heap.size w w') : BssV xss v w' := by
  obtain ⟨A, n, c, h1, h2⟩ := h; exact ⟨A, n, c, h1, h2.below hb⟩
theorem bsV_of {w : World} {v : Value} {bs : List UInt8} (h : Bs w v bs) : BsV bs v w := by
  obtain ⟨A, c, rfl, h⟩ := h
  exact ⟨A, _, c, rfl, A, c, rfl, h⟩
theorem num_v (s : Int) (N : Nat) (hN : N < 18446744073709551616) (w : World) : Calls Try.prog 26 #[.int .i64 s, .int .u64 (N : Int)] w fun e w' => ∃ v, e = .returned v ∧ BsV (numB (wid s) N) v w' ∧ Below w.heap.size w w' :=
  (num_any s N w hN).mono fun e w' ⟨v, h1, h2, h3⟩ => ⟨v, h1, bsV_of (own_bs h2).2, h3⟩
theorem nums_v (s : Int) (xs : List Int) (hr : ∀ x ∈ xs, 0 ≤ x ∧ x < 18446744073709551616) (hl : xs.length ≤ 1000000000) (A : Option Addr) (n c : Nat) (w : World) (hX : Is .u64 w (.slice A n c) xs) : Calls Try.prog 27 #[.int .i64 s, .slice A n c] w fun e w' => ∃ v, e = .returned v ∧ BsV (numsB (wid s) xs) v w' ∧ Below w.heap.size w w' :=
  (nums_any s A n c xs w hX hr (by rw [hX.len]; exact hl)).mono fun e w' ⟨v, m, h1, h2, h3⟩ => ⟨v, h1, bsV_of (own_bs h2).2, h3⟩
theorem join_v (xss : List (List UInt8)) (hn : xss.length ≤ 140737488355328) (hl : Lib.lens xss ≤ 140737488355328) (A : Option Addr) (n c : Nat) (w : World) (hX : Bss w (.slice A n c) xss) : Calls Try.prog 25 #[.slice A n c] w fun e w' => ∃ v, e = .returned v ∧ BsV xss.flatten v w' ∧ Below w.heap.size w w' :=
  (pjoin_any A n c xss w hX (by obtain ⟨A', c', vs, he, _⟩ := hX; injection he with _ e2 _; omega) hl).mono fun e w' ⟨v, h1, h2, h3⟩ => ⟨v, h1, bsV_of h2.1, h3⟩
end Go.Proofs.YteghldapcfkekaaK

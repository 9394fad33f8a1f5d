import Derived.Test.YtljdfhckllncoaaKOpenA
import Derived.Test.YtljdfhckllncoaaRows
import Derived.Lib.SmallJoins
namespace Go.Proofs.YtljdfhckllncoaaK
open Go.RowKit Go.ChangeShapes Go.WideShapes Go.ChangeAt Go.ChangeMaps
set_option linter.unusedSimpArgs false
set_option linter.unusedVariables false
section
variable {H : Type} {enc : TypeId × Value → H} {w : World} {base : Nat} {spare : Nat → Bool} {held : Bool}
set_option maxRecDepth 100000 in
theorem open_node {v : Value} {d : DataW H} {ps : List MemPlace} {b2 : Nat} (hv : Value.okWide Try.prog w .any b2 45 v) (h : DataW.Trod enc Try.prog w base spare held 45 v d ps) :
    ∃ (k ep : Int) (A : Option Addr) (n c : Nat) (bs : List UInt8), v = .agg #[.int .i64 k, .int .u64 ep, .slice A n c] ∧ Bs w (.slice A n c) bs ∧ (Lit.int .i64 k).wf = true ∧ 0 ≤ ep ∧ ep < 18446744073709551616 := by
  obtain ⟨v0, v1, v2, y0, y1, y2, n, rfl, _, _, h0, h1, h2⟩ := Go.Joins.open_agg3 Try.underlying45 (by kernel_rfl) (by kernel_rfl) hv h
  obtain ⟨z0, e0, _, w0⟩ := DataW.trod_int Try.underlying3 h0
  obtain ⟨z1, e1, _, w1⟩ := DataW.trod_int Try.underlying43 h1
  simp at e0 e1
  subst e0 e1
  obtain ⟨bs, hb⟩ := bytes_of_trod Try.underlying22 Try.underlying5 (by kernel_rfl) h2
  obtain ⟨A, n, c, rfl, _⟩ := hb.slice
  have := bounds_u64 w1
  exact ⟨z0, z1, A, n, c, bs, rfl, hb, w0, this.1, by omega⟩
/-- A commit's cells. -/
def cmtC (ep : Int) (live : List UInt8) (sum : Int) : Array Value := ([Value.int .u64 ep] ++ (live.map encB ++ [Value.int .u32 sum])).toArray
set_option maxRecDepth 100000 in
theorem open_commit {v : Value} {d : DataW H} {ps : List MemPlace} {b2 : Nat} (hv : Value.okWide Try.prog w .any b2 50 v) (h : DataW.Trod enc Try.prog w base spare held 50 v d ps) :
    ∃ (ep : Int) (live : List UInt8) (sum : Int), v = .agg (cmtC ep live sum) ∧ live.length = 32 ∧ 0 ≤ ep ∧ ep < 18446744073709551616 ∧ 0 ≤ sum ∧ sum < 4294967296 := by
  obtain ⟨cs, rfl, hsz⟩ := okWide_struct Try.underlying50 hv
  obtain ⟨fuel, hf⟩ := h
  obtain ⟨y0, y1, y2, n, _, hl, h0, h1, h2⟩ := Go.Deep.trod_struct3 Try.underlying50 hf
  rw [show Try.prog.cellsOf 43 = 1 from by kernel_rfl] at h0
  rw [show Try.prog.cellsOf 47 = 32 from by kernel_rfl] at h1
  rw [show Try.prog.cellsOf 48 = 1 from by kernel_rfl] at h2
  rw [show Try.prog.cellsOf 50 = 34 from by kernel_rfl] at hl
  obtain ⟨z0, e0, _, w0⟩ := DataW.trod_int Try.underlying43 h0
  obtain ⟨live, e1, l1⟩ := bytes_of_array Try.underlying47 Try.underlying5 (by kernel_rfl) (by kernel_rfl) h1
  obtain ⟨z2, e2, _, w2⟩ := DataW.trod_int Try.underlying48 h2
  have b0 := bounds_u64 w0
  have b2 := bounds_u32 w2
  refine ⟨z0, live, z2, ?_, l1, b0.1, by omega, b2.1, by omega⟩
  congr 1
  apply Array.toList_inj.1
  have hcl : cs.toList.length = 34 := hl
  unfold cmtC
  show cs.toList = _ ++ (_ ++ _)
  rw [← e0, ← e1, ← e2]
  show cs.toList = (List.drop 0 cs.toList).take 1 ++ ((List.drop 1 cs.toList).take 32 ++ (List.drop 33 cs.toList).take 1)
  have e4 : (List.drop 33 cs.toList).take 1 = List.drop 33 cs.toList := List.take_of_length_le (by rw [List.length_drop]; omega)
  have e5 : List.drop 33 cs.toList = List.drop 32 (List.drop 1 cs.toList) := by rw [List.drop_drop]
  rw [e4, e5, List.take_append_drop, List.drop_zero, List.take_append_drop]
end
end Go.Proofs.YtljdfhckllncoaaK

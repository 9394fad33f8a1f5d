import Derived.Test.YtljdfhckllncoaaKOpen
import Derived.Deep.Strs
namespace Go.Proofs.YtljdfhckllncoaaK
open Go.RowKit Go.ChangeShapes Go.WideShapes Go.ChangeAt Go.ChangeMaps
set_option linter.unusedSimpArgs false
set_option linter.unusedVariables false
section
variable {H : Type} {enc : TypeId × Value → H} {P : Program} {w : World} {base : Nat} {spare : Nat → Bool} {held : Bool}
/-- An array of bytes, its cells as bytes. -/
theorem bytes_of_array {t e : TypeId} {n fuel : Nat} {cs : List Value} {x : DataW H × List MemPlace} (ht : P.underlying t = some (.array n e)) (he : P.underlying e = some (.int .u8)) (hc : P.cellsOf e = 1) (hn : P.cellsOf t = n)
    (h : DataW.trod enc P w base spare held fuel t cs = some x) : ∃ bs : List UInt8, cs = bs.map encB ∧ bs.length = n := by
  obtain ⟨xs, m, _, _, hl, hx, hi⟩ := DataW.trod_array ht h
  rw [hn] at hl
  obtain ⟨bs, hbl, hb⟩ := list_of (R := fun i (b : UInt8) => cs[i]? = some (encB b)) n (fun i hin => by
    have h1 := hi i hin
    rw [hc, Nat.mul_one] at h1
    have hcl : i < cs.length := by omega
    have h2 : (cs.drop i).take 1 = [cs[i]] := by rw [List.drop_eq_getElem_cons hcl]; rfl
    rw [h2, List.getElem?_eq_getElem (by omega)] at h1
    obtain ⟨z, e0, _, wz⟩ := DataW.trod_int he h1
    simp at e0
    exact ⟨toB z, by rw [toB_back wz, List.getElem?_eq_getElem hcl, e0]⟩)
  refine ⟨bs, ?_, hbl⟩
  apply List.ext_getElem?
  intro i
  rw [List.getElem?_map]
  by_cases hin : i < n
  · rw [List.getElem?_eq_getElem (show i < bs.length by omega)]
    exact hb i (by omega)
  · rw [List.getElem?_eq_none (by omega), List.getElem?_eq_none (by omega)]
    rfl
theorem open_arr {t e : TypeId} {n : Nat} {v : Value} {d : DataW H} {ps : List MemPlace} {b2 : Nat} (ht : P.underlying t = some (.array n e)) (he : P.underlying e = some (.int .u8)) (hc : P.cellsOf e = 1) (hn : P.cellsOf t = n)
    (hv : Value.okWide P w .any b2 t v) (h : DataW.Trod enc P w base spare held t v d ps) : ∃ bs : List UInt8, v = .agg (bs.map encB).toArray ∧ bs.length = n := by
  obtain ⟨fuel, hf⟩ := h
  unfold Value.okWide at hv
  rw [ht] at hv
  obtain ⟨cs, rfl, hsz, _⟩ := hv
  obtain ⟨bs, h1, h2⟩ := bytes_of_array (cs := cs.toList) ht he hc hn hf
  exact ⟨bs, by rw [← h1], h2⟩
end
end Go.Proofs.YtljdfhckllncoaaK

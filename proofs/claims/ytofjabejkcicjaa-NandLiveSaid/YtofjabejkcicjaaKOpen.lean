import Derived.Test.YtofjabejkcicjaaKCore
import Derived.ProofKit
import Derived.OpenShut
import Derived.Deep.Slices
namespace Go.Proofs.YtofjabejkcicjaaK
open Go.RowKit Go.ChangeShapes Go.WideShapes Go.ChangeAt Go.ChangeMaps
set_option linter.unusedSimpArgs false
set_option linter.unusedVariables false
/-! Arguments are opened: what reads as data is a list. -/
section
variable {H : Type} {enc : TypeId × Value → H} {P : Program} {w : World} {base : Nat} {spare : Nat → Bool} {held : Bool}
def toB (n : Int) : UInt8 := UInt8.ofNat n.toNat
theorem toB_back {n : Int} (h : (Lit.int .u8 n).wf = true) : encB (toB n) = .int .u8 n := by
  have := bounds_u8 h
  unfold encB toB
  congr 1
  have h1 : (UInt8.ofNat n.toNat).toNat = n.toNat := by
    rw [UInt8.toNat_ofNat']; omega
  rw [h1]; omega
theorem bytes_of_trod {t e : TypeId} {fuel : Nat} {v : Value} {x : DataW H × List MemPlace} (ht : P.underlying t = some (.slice e)) (he : P.underlying e = some (.int .u8)) (hc : P.cellsOf e = 1)
    (h : DataW.trod enc P w base spare held fuel t [v] = some x) : ∃ bs, Bs w v bs := by
  rcases open_ints ht he hc h with ⟨hcs, hx⟩ | ⟨a, len, cap, zs, hcs, _, hl, hm, hz, hx, hcell, hwz⟩
  · simp at hcs; subst hcs
    exact ⟨[], none, 0, rfl, by simp, by simp, At.nil w _⟩
  · simp at hcs; subst hcs
    have hlz : len ≤ zs.length := by rw [hz]; split <;> omega
    refine ⟨(zs.take len).map toB, some a, cap, by simp; omega, by simp; omega, by simp; simp only [maxLen] at hm; omega, ?_⟩
    intro j u hu
    refine ⟨a, rfl, ?_⟩
    have hj : j < len := by
      rcases Nat.lt_or_ge j len with h | h
      · exact h
      · rw [List.getElem?_eq_none (by simp; omega)] at hu; cases hu
    rw [hcell j (by omega)]
    have hjz : j < zs.length := by omega
    rw [List.getElem?_map, List.getElem?_map, List.getElem?_take_of_lt hj, List.getElem?_eq_getElem hjz] at hu
    simp only [Option.map_some, Option.some.injEq] at hu
    rw [← hu, toB_back (hwz _ (List.getElem_mem _))]
    simp [List.getD_eq_getElem?_getD, List.getElem?_eq_getElem hjz]
/-- From a choice for each index, a list. -/
theorem list_of {α : Type} {R : Nat → α → Prop} : ∀ n : Nat, (∀ i, i < n → ∃ y, R i y) → ∃ l : List α, l.length = n ∧ ∀ i (h : i < l.length), R i l[i]
  | 0, _ => ⟨[], rfl, fun i h => by simp at h⟩
  | n + 1, h => by
    obtain ⟨l, hl, hr⟩ := list_of n (fun i hi => h i (by omega))
    obtain ⟨y, hy⟩ := h n (by omega)
    refine ⟨l ++ [y], by simp [hl], fun i hi => ?_⟩
    rw [List.getElem_append]
    split
    · exact hr i _
    · simp at hi
      have : i = n := by omega
      subst this
      simpa using hy
theorem bss_of_trod {t e e' : TypeId} {fuel : Nat} {v : Value} {x : DataW H × List MemPlace} (ht : P.underlying t = some (.slice e)) (hc : P.cellsOf e = 1) (he : P.underlying e = some (.slice e')) (he' : P.underlying e' = some (.int .u8)) (hc' : P.cellsOf e' = 1)
    (h : DataW.trod enc P w base spare held fuel t [v] = some x) : ∃ xss, Bss w v xss := by
  rcases Go.Deep.open_slice1 ht hc h with ⟨hcs, hx⟩ | ⟨a, len, cap, m, n, V, D, Pl, hcs, hb, hl, hm, hmm, hx, hel⟩
  · simp at hcs; subst hcs
    exact ⟨[], Bss.nil w⟩
  · simp at hcs; subst hcs
    have hlm : len ≤ m := by rw [hmm]; split <;> omega
    obtain ⟨vs, hvl, hv⟩ := list_of (R := fun i u => w.cell? (a.add i) = some u ∧ ∃ bs, Bs w u bs) len (fun i hi => ⟨V i, (hel i (by omega)).1, bytes_of_trod he he' hc' (hel i (by omega)).2⟩)
    obtain ⟨xss, hxl, hx'⟩ := list_of (R := fun i bs => ∃ h : i < vs.length, Bs w vs[i] bs) len (fun i hi => by
      obtain ⟨bs, hbs⟩ := (hv i (by omega)).2
      exact ⟨bs, by omega, hbs⟩)
    refine ⟨xss, some a, cap, vs, by rw [hxl], by omega, by simp only [maxLen] at hm; omega, by omega, ?_, fun j hj hjv => (hx' j hj).2⟩
    intro j u hu
    have hj : j < vs.length := by
      rcases Nat.lt_or_ge j vs.length with h | h
      · exact h
      · rw [List.getElem?_eq_none h] at hu; cases hu
    rw [List.getElem?_eq_getElem hj] at hu
    injection hu with hu
    exact ⟨a, rfl, hu ▸ (hv j hj).1⟩
theorem Bs.slice {v : Value} {bs : List UInt8} (h : Bs w v bs) : ∃ A n c, v = .slice A n c ∧ n = bs.length := by
  obtain ⟨A, c, rfl, _⟩ := h
  exact ⟨A, _, c, rfl, rfl⟩
theorem Bss.slice {v : Value} {xss : List (List UInt8)} (h : Bss w v xss) : ∃ A n c, v = .slice A n c ∧ n = xss.length := by
  obtain ⟨A, c, vs, rfl, _⟩ := h
  exact ⟨A, _, c, rfl, rfl⟩
theorem slice_cells {t e : TypeId} {v : Value} (ht : P.underlying t = some (.slice e)) (hv : Value.okWide P w .any base t v) : v.cells.toList = [v] := by
  obtain ⟨a, len, cap, rfl⟩ := okWide_slice ht hv
  rfl
theorem open_bytes {t e : TypeId} {v : Value} {d : DataW H} {ps : List MemPlace} {b2 : Nat} (ht : P.underlying t = some (.slice e)) (he : P.underlying e = some (.int .u8)) (hc : P.cellsOf e = 1)
    (hv : Value.okWide P w .any b2 t v) (h : DataW.Trod enc P w base spare held t v d ps) : ∃ A n c bs, v = .slice A n c ∧ n = bs.length ∧ Bs w (.slice A n c) bs := by
  obtain ⟨fuel, hf⟩ := h
  rw [slice_cells ht hv] at hf
  obtain ⟨bs, hb⟩ := bytes_of_trod ht he hc hf
  obtain ⟨A, n, c, rfl, hn⟩ := hb.slice
  exact ⟨A, n, c, bs, rfl, hn, hb⟩
theorem open_bss {t e e' : TypeId} {v : Value} {d : DataW H} {ps : List MemPlace} {b2 : Nat} (ht : P.underlying t = some (.slice e)) (hc : P.cellsOf e = 1) (he : P.underlying e = some (.slice e')) (he' : P.underlying e' = some (.int .u8)) (hc' : P.cellsOf e' = 1)
    (hv : Value.okWide P w .any b2 t v) (h : DataW.Trod enc P w base spare held t v d ps) : ∃ A n c xss, v = .slice A n c ∧ n = xss.length ∧ Bss w (.slice A n c) xss := by
  obtain ⟨fuel, hf⟩ := h
  rw [slice_cells ht hv] at hf
  obtain ⟨xss, hb⟩ := bss_of_trod ht hc he he' hc' hf
  obtain ⟨A, n, c, rfl, hn⟩ := hb.slice
  exact ⟨A, n, c, xss, rfl, hn, hb⟩
end
end Go.Proofs.YtofjabejkcicjaaK

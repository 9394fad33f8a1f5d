import Derived.Test.YtofjabejkcicjaaKCore
import Derived.DeepKeys
import Derived.Laws.StructEq
namespace Go.Proofs.YtofjabejkcicjaaK
open Go.RowKit
set_option linter.unusedSimpArgs false
set_option linter.unusedVariables false
section
variable {P : Program}
def litB (b : UInt8) : Lit := .int .u8 (b.toNat : Int)
theorem litB_inj (a b : List UInt8) : a.map litB = b.map litB ↔ a = b := by
  constructor
  · intro h
    induction a generalizing b with
    | nil => cases b with
      | nil => rfl
      | cons => simp at h
    | cons x l ih => cases b with
      | nil => simp at h
      | cons y m =>
        simp only [List.map_cons, List.cons.injEq] at h
        have h1 : (x.toNat : Int) = (y.toNat : Int) := by
          have := h.1
          unfold litB at this
          injection this
        have h2 : x = y := UInt8.toNat_inj.1 (by omega)
        rw [h2, ih m h.2]
  · intro h; rw [h]
theorem wf_u8 (b : UInt8) : (Lit.int .u8 (b.toNat : Int)).wf = true := by
  have := b.toNat_lt
  simp [Lit.wf, IntKind.min, IntKind.max, IntKind.signed, IntKind.bits]
  omega
theorem keyLits_byte {e : TypeId} {D : Nat} (he : P.underlying e = some (.int .u8)) (b : UInt8) : P.keyLits (D + 1) e [encB b] = some [litB b] := by
  unfold Program.keyLits encB
  rw [he]
  simp [wf_u8, litB]
theorem mapM_get {α : Type} (f : Nat → Option α) (g : Nat → α) : ∀ (l : List Nat), (∀ i ∈ l, f i = some (g i)) → l.mapM f = some (l.map g)
  | [], _ => rfl
  | i :: l, h => by
    rw [List.mapM_cons, h i (by simp), mapM_get f g l (fun j hj => h j (by simp [hj]))]
    rfl
theorem keyLits_arr {t e : TypeId} {n D : Nat} (ht : P.underlying t = some (.array n e)) (he : P.underlying e = some (.int .u8)) (hc : P.cellsOf e = 1) (hn : P.cellsOf t = n) (bs : List UInt8) (hl : bs.length = n) :
    P.keyLits (D + 2) t (bs.map encB) = some (bs.map litB) := by
  unfold Program.keyLits
  rw [ht]
  have h0 : (bs.map encB).length = P.cellsOf t := by rw [List.length_map, hl, hn]
  have hm : ((List.range n).mapM fun i => P.keyLits (D + 1) e (((bs.map encB).drop (i * P.cellsOf e)).take (P.cellsOf e))) = some ((List.range n).map fun i => [litB (bs.getD i 0)]) := by
    apply mapM_get
    intro i hi
    have hi' : i < bs.length := by rw [hl]; exact List.mem_range.1 hi
    rw [hc, Nat.mul_one, List.drop_eq_getElem_cons (by rw [List.length_map]; exact hi')]
    rw [show List.take 1 (((bs.map encB)[i]'(by rw [List.length_map]; exact hi')) :: List.drop (i + 1) (bs.map encB)) = [encB bs[i]] from by simp]
    rw [keyLits_byte he, List.getD_eq_getElem?_getD, List.getElem?_eq_getElem hi']
    rfl
  have hf : ((List.range n).map fun i => [litB (bs.getD i 0)]).flatten = bs.map litB := by
    rw [← hl]
    apply List.ext_getElem?
    intro i
    have e1 : ((List.range bs.length).map fun i => [litB (bs.getD i 0)]).flatten = (List.range bs.length).map fun i => litB (bs.getD i 0) := by
      generalize List.range bs.length = l
      induction l with
      | nil => rfl
      | cons x l ih => rw [List.map_cons, List.flatten_cons, List.map_cons, ih]; rfl
    rw [e1, List.getElem?_map, List.getElem?_map]
    by_cases hi : i < bs.length
    · rw [List.getElem?_range hi, List.getElem?_eq_getElem hi]
      simp [List.getD_eq_getElem?_getD, List.getElem?_eq_getElem hi]
    · rw [List.getElem?_eq_none (by simp; omega), List.getElem?_eq_none (by omega)]
      rfl
  simp only []
  rw [if_pos h0, hm]
  exact congrArg some hf
theorem arr_eql {t e : TypeId} {n : Nat} (ht : P.underlying t = some (.array n e)) (he : P.underlying e = some (.int .u8)) (hc : P.cellsOf e = 1) (hn : P.cellsOf t = n) (hk : P.keyTypeAt 2 t = true) (xs bs : List UInt8) (ha : xs.length = n) (hb : bs.length = n) (w : World) :
    (Op.equalIn 10000 t (.agg (xs.map encB).toArray) (.agg (bs.map encB).toArray)).run P w = .ok (decide (xs = bs)) w := by
  have hf : ∀ cs : List UInt8, cs.length = n → (Value.agg (cs.map encB).toArray).formed P t = true := by
    intro cs hcs
    unfold Value.formed
    simp [ht, hn, hcs]
  obtain ⟨r, h1, h2⟩ := run_equalIn_deep (P := P) 9998 2 t hk w 2 2 _ _ _ _ (hf xs ha) (hf bs hb) (keyLits_arr (D := 0) ht he hc hn xs ha) (keyLits_arr (D := 0) ht he hc hn bs hb)
  rw [show (10000 : Nat) = 9998 + 2 from rfl, h1]
  congr 1
  rw [litB_inj] at h2
  by_cases h : xs = bs
  · rw [decide_eq_true h]; exact h2.2 h
  · rw [decide_eq_false h]
    cases r
    · rfl
    · exact absurd (h2.1 rfl) h
end
end Go.Proofs.YtofjabejkcicjaaK

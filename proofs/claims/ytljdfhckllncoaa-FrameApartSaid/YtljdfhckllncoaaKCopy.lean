import Derived.Test.YtljdfhckllncoaaKRows
import Derived.Laws.IdiomCopy
namespace Go.Proofs.YtljdfhckllncoaaK
open Go.RowKit
set_option linter.unusedSimpArgs false
set_option linter.unusedVariables false
/-- A row with a piece of it written over. -/
def spl {α : Type} (L : List α) (o : Nat) (vs : List α) : List α := L.take o ++ (vs ++ L.drop (o + vs.length))
theorem spl_length {α : Type} {L : List α} {o : Nat} {vs : List α} (h : o + vs.length ≤ L.length) : (spl L o vs).length = L.length := by
  unfold spl; simp; omega
theorem spl_get {α : Type} {L : List α} {o : Nat} {vs : List α} (h : o + vs.length ≤ L.length) (j : Nat) : (spl L o vs)[j]? = if o ≤ j ∧ j < o + vs.length then vs[j - o]? else L[j]? := by
  unfold spl
  by_cases h1 : j < o
  · rw [List.getElem?_append_left (by simp; omega), List.getElem?_take_of_lt h1, if_neg (by omega)]
  · rw [List.getElem?_append_right (by simp; omega)]
    rw [show j - (L.take o).length = j - o from by simp; omega]
    by_cases h2 : j < o + vs.length
    · rw [List.getElem?_append_left (by omega), if_pos (by omega)]
    · rw [List.getElem?_append_right (by omega), List.getElem?_drop, if_neg (by omega)]
      congr 1
      omega
theorem spl_map {α β : Type} (f : α → β) (L : List α) (o : Nat) (vs : List α) : (spl L o vs).map f = spl (L.map f) o (vs.map f) := by
  unfold spl; simp
theorem spl_nil {α : Type} (L : List α) (o : Nat) : spl L o [] = L := by unfold spl; simp
section
variable {P : Program} {w0 w w' : World} {rs : List (Nat × List Value)} {b : Nat} {L L' vs : List Value}
theorem Arr.splice (h : Arr w b L) (o : Nat) (hf : o + vs.length ≤ L.length) : Arr (w.setCells b o vs) b (spl L o vs) := by
  refine ⟨fun j v hv => ?_, fun j hj => ?_, Nat.lt_of_lt_of_le h.2.2 (setCells_size _ _ _ _)⟩
  · rw [spl_get hf] at hv
    rw [Nat.zero_add]
    by_cases h1 : o ≤ j ∧ j < o + vs.length
    · rw [if_pos h1] at hv
      have hin := World.cell?_setCells_in b vs o w (fun i hi => by have := (h.2.1 (o + i) (by omega)).1; rwa [Nat.zero_add] at this) (j - o) (by omega)
      rw [show o + (j - o) = j from by omega] at hin
      rw [hin]
      rw [List.getElem?_eq_getElem (by omega)] at hv
      exact hv
    · rw [if_neg h1] at hv
      have := h.1 j v hv
      rw [Nat.zero_add] at this
      rw [World.cell?_setCells_out b vs o w ⟨b, j, none⟩ (fun _ _ => by simp only; omega)]
      exact this
  · rw [spl_length hf] at hj
    exact World.there_setCells h.2.1 _ _ _ j hj
theorem Arr.bs {bs : List UInt8} (h : Arr w b (bs.map encB)) (o n c : Nat) (hn : o + n ≤ bs.length) (hc : n ≤ c) (hm : n ≤ 9223372036854775807) : Bs w (.slice (some ⟨b, o, none⟩) n c) ((bs.drop o).take n) := by
  have hl : ((bs.drop o).take n).length = n := by simp; omega
  refine ⟨some ⟨b, o, none⟩, c, by rw [hl], by omega, by omega, fun j u hu => ⟨_, rfl, ?_⟩⟩
  rw [Addr.add_mid]
  have hj : j < n := by
    have := (List.getElem?_eq_some_iff.1 hu).1
    rw [List.length_map, hl] at this
    exact this
  refine h.at_ (o + j) u ?_
  rw [List.getElem?_map] at hu ⊢
  rw [List.getElem?_take_of_lt hj, List.getElem?_drop] at hu
  exact hu
theorem Rows.splice (h : Rows w0 ((b, L) :: rs) w) (o : Nat) (hf : o + vs.length ≤ L.length) : Rows w0 ((b, spl L o vs) :: rs) (w.setCells b o vs) := by
  have ha := h.apart
  rw [List.pairwise_cons] at ha
  refine ⟨fun p hp => ?_, List.pairwise_cons.2 ⟨ha.1, ha.2⟩, fun p hp => ?_, below_setCells (h.since (b, L) (by simp)) _ _ h.below⟩
  · rcases List.mem_cons.1 hp with rfl | hp
    · exact (h.rows (b, L) (by simp)).splice o hf
    · exact (h.rows p (by simp [hp])).set_other (fun e => ha.1 p hp e.symm) o vs
  · rcases List.mem_cons.1 hp with rfl | hp
    · exact h.since (b, L) (by simp)
    · exact h.since p (by simp [hp])
/-- copy into a row: as many cells as there are, and as fit. -/
theorem run_copy_arr (dT sT ty elem : TypeId) (g off dLen dCap : Nat) (sp : Option Addr) (sLen sCap : Nat) (src : List Value) (hu : P.underlying dT = some (.slice elem)) (hs : (P.info? elem).map (·.size) = some 1)
    (hsl : src.length = sLen) (hAt : At w sp src) (hA : Arr w g L) (hfit : off + Nat.min sLen dLen ≤ L.length) (h1 : ∀ v ∈ src, v.oneCell' = true) :
    (Builtin.copy_ #[dT, sT] ty #[.slice (some ⟨g, off, none⟩) dLen dCap, .slice sp sLen sCap]).run P w = .ok (goInt (Nat.min sLen dLen)) (w.setCells g off (src.take (Nat.min sLen dLen))) := by
  by_cases h0 : Nat.min sLen dLen = 0
  · rw [run_copy_none (P := P) w dT sT ty elem _ _ _ _ _ _ hu hs h0, h0]; rfl
  · have hpos : 0 < src.length := by
      have := Nat.min_le_left sLen dLen
      have h2 : Nat.min sLen dLen = min sLen dLen := rfl
      omega
    obtain ⟨ad, rfl, _⟩ := hAt 0 _ (List.getElem?_eq_getElem hpos)
    have hle : Nat.min sLen dLen ≤ src.length := by rw [hsl]; exact Nat.min_le_left _ _
    have hcl : (src.take (Nat.min sLen dLen)).length = Nat.min sLen dLen := by rw [List.length_take]; exact Nat.min_eq_left hle
    have hr := run_copy_cells (P := P) w dT sT ty elem g off dLen dCap ad sLen sCap (src.take (Nat.min sLen dLen)) hu hs hcl
      (fun j v hv => by
        have hj : j < Nat.min sLen dLen := by
          have := (List.getElem?_eq_some_iff.1 hv).1
          rwa [hcl] at this
        rw [List.getElem?_take_of_lt hj] at hv
        obtain ⟨ad', h', hc⟩ := hAt j v hv
        injection h' with h'
        subst h'
        exact hc)
      (fun j hj => by rw [hcl] at hj; have := (hA.2.1 (off + j) (by omega)).1; rwa [Nat.zero_add] at this)
      (fun j hj => by rw [hcl] at hj; have := (hA.2.1 (off + j) (by omega)).2; rwa [Nat.zero_add] at this)
      (fun v hv => h1 v (List.mem_of_mem_take hv))
    rw [hcl] at hr
    exact hr
theorem wp_copy {ops : Array Oper} {o : Oper} {a : Act} {K : Act → World → Prop} {Q : Exit → Act → World → Prop} (d s : Operand) (dT sT : TypeId)
    (ho : o.op = .call { callee := .builtin .copy, args := #[d, s], argTypes := #[dT, sT] }) (elem : TypeId) (hu : P.underlying dT = some (.slice elem)) (hs : (P.info? elem).map (·.size) = some 1)
    (g off dLen dCap : Nat) (sp : Option Addr) (sLen sCap : Nat) (src : List Value) (hd : a.eval d = .slice (some ⟨g, off, none⟩) dLen dCap) (hsv : a.eval s = .slice sp sLen sCap)
    (hsl : src.length = sLen) (hAt : At w sp src) (hA : Arr w g L) (hfit : off + Nat.min sLen dLen ≤ L.length) (h1 : ∀ v ∈ src, v.oneCell' = true)
    (h : K (a.put o.dst (goInt (Nat.min sLen dLen))) (w.setCells g off (src.take (Nat.min sLen dLen)))) : o.wp P a w K Q := by
  have hr := run_copy_arr (P := P) dT sT o.type elem g off dLen dCap sp sLen sCap src hu hs hsl hAt hA hfit h1
  unfold Oper.wp execOp
  simp only [ho, resolve, invoke, builtin, Sem.run_bind, Sem.run_pure, Result.andThen_ok, List.map_toArray, List.map_cons, List.map_nil, hd, hsv, hr]
  exact h
theorem wpList_copy {ops : Array Oper} {rest : List Oper} {o : Oper} {a : Act} {Q : Exit → Act → World → Prop} (hgd : o.guard = none) (d s : Operand) (dT sT : TypeId)
    (ho : o.op = .call { callee := .builtin .copy, args := #[d, s], argTypes := #[dT, sT] }) (elem : TypeId) (hu : P.underlying dT = some (.slice elem)) (hs : (P.info? elem).map (·.size) = some 1)
    (g off dLen dCap : Nat) (sp : Option Addr) (sLen sCap : Nat) (src : List Value) (hd : a.eval d = .slice (some ⟨g, off, none⟩) dLen dCap) (hsv : a.eval s = .slice sp sLen sCap)
    (hsl : src.length = sLen) (hAt : At w sp src) (hA : Arr w g L) (hfit : off + Nat.min sLen dLen ≤ L.length) (h1 : ∀ v ∈ src, v.oneCell' = true)
    (h : wpList P ops Q rest (a.put o.dst (goInt (Nat.min sLen dLen))) (w.setCells g off (src.take (Nat.min sLen dLen)))) : wpList P ops Q (o :: rest) a w :=
  wpList_plain hgd fun _ hK => wp_copy (ops := ops) d s dT sT ho elem hu hs g off dLen dCap sp sLen sCap src hd hsv hsl hAt hA hfit h1 (hK _ _ h)
end
end Go.Proofs.YtljdfhckllncoaaK

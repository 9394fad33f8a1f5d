import Derived.Test.YtofjabejkcicjaaKCore
import Derived.Deep.MidRow
import Derived.Deep.WholeRow
import Derived.Laws.ResultCell
import Derived.WalkKit
namespace Go.Proofs.YtofjabejkcicjaaK
open Go.RowKit
set_option linter.unusedSimpArgs false
set_option linter.unusedVariables false
/-- A row of cells: it is there, reads as L, and may be written. -/
def Arr (w : World) (b : Nat) (L : List Value) : Prop := w.rangeAt b 0 L ∧ w.there b 0 L.length ∧ b < w.heap.size
theorem setCells_size (w : World) (b k : Nat) (vs : List Value) : w.heap.size ≤ (w.setCells b k vs).heap.size := by
  have h : ∀ (vs : List Value) (b k : Nat) (w : World), w.heap.size ≤ (w.setCells b k vs).heap.size := by
    intro vs
    induction vs with
    | nil => intro b k w; exact Nat.le_refl _
    | cons v r ih => intro b k w; rw [World.setCells]; exact Nat.le_trans (by simp) (ih b (k + 1) _)
  exact h vs b k w
theorem below_setCells {B b : Nat} {a : World} (hb : B ≤ b) : ∀ (vs : List Value) (o : Nat) {w : World}, Below B a w → Below B a (w.setCells b o vs)
  | [], _, _, h => h
  | v :: r, o, w, h => below_setCells hb r (o + 1) (h.setCell (p := ⟨b, o, none⟩) hb v)
section
variable {w w' : World} {b : Nat} {L L' : List Value}
theorem Arr.range (h : Arr w b L) : w.rangeAt b 0 L := h.1
theorem Arr.at_ (h : Arr w b L) (j : Nat) (v : Value) (hv : L[j]? = some v) : w.cell? ⟨b, j, none⟩ = some v := by have := h.1 j v hv; rwa [Nat.zero_add] at this
theorem Arr.below (h : Arr w b L) (hb : Below w.heap.size w w') : Arr w' b L := by
  refine ⟨fun j v hv => ?_, fun j hj => ?_, Nat.lt_of_lt_of_le h.2.2 hb.size⟩
  · have := h.1 j v hv
    rw [← this]; exact hb.cell (p := ⟨b, 0 + j, none⟩) h.2.2
  · have h1 := h.2.1 j hj
    have h2 := hb.block b h.2.2
    unfold World.cell? World.frozen? at h1 ⊢
    simp only [h2]
    exact h1
theorem Arr.alloc (h : Arr w b L) (o : Obj) : Arr (w.alloc o) b L := h.below ((Below.refl _ _).alloc (Nat.le_refl _) _)
theorem Arr.drew (h : Arr w b L) : Arr w.drew b L := h.below (Below.refl _ _).drew
theorem Arr.set_other (h : Arr w b L) {b' : Nat} (hne : b ≠ b') (o : Nat) (vs : List Value) : Arr (w.setCells b' o vs) b L :=
  ⟨World.rangeAt_setCells_apart h.1 _ _ _ (.inl hne), World.there_setCells h.2.1 _ _ _, Nat.lt_of_lt_of_le h.2.2 (setCells_size _ _ _ _)⟩
theorem Arr.set_same (h : Arr w b L) (hl : L'.length = L.length) : Arr (w.setCells b 0 L') b L' :=
  ⟨World.rangeAt_setCells_same _ _ _ _ (hl ▸ h.2.1), World.there_setCells (hl ▸ h.2.1) _ _ _, Nat.lt_of_lt_of_le h.2.2 (setCells_size _ _ _ _)⟩
theorem Arr.setA_same (h : Arr w b L) {A : Array Value} (hl : A.size = L.length) : Arr (w.setCells b 0 A.toList) b A.toList := h.set_same (by simpa using hl)
theorem Arr.thereA (h : Arr w b L) {A : Array Value} (hl : A.size = L.length) : w.there b 0 A.size := hl ▸ h.2.1
theorem arr_row {cs : Array Value} {T : TypeId} (h : w.heap[b]? = some (.cells cs T (0, 0))) : Arr w b cs.toList := by
  have hlt : b < w.heap.size := (Array.getElem?_eq_some_iff.1 h).1
  refine ⟨fun j v hv => ?_, fun j hj => ?_, hlt⟩
  · rw [Nat.zero_add, cell_of_row _ _ j _ _ _ h]; simpa using hv
  · constructor
    · rw [Nat.zero_add, cell_of_row _ _ j _ _ _ h, Array.getElem?_eq_getElem (by simpa using hj)]; rfl
    · simp [World.frozen?, h]
theorem arr_new (w : World) (cs : Array Value) (T : TypeId) : Arr (w.alloc (.cells cs T)) w.heap.size cs.toList := arr_row (heap_alloc_new w _)
theorem arr_newL (w : World) (cs : List Value) (T : TypeId) : Arr (w.alloc (.cells cs.toArray T)) w.heap.size cs := by have := arr_new w cs.toArray T; simpa using this
theorem Arr.grown (h : Arr w b L) {row : Option Nat} (hg : w.grownBy w' row) (hne : some b ≠ row) : Arr w' b L := by
  have h2 := hg.block b h.2.2 hne
  refine ⟨fun j v hv => ?_, fun j hj => ?_, Nat.lt_of_lt_of_le h.2.2 hg.size⟩
  · have := h.1 j v hv
    rw [← this]; unfold World.cell?; simp only [h2]
  · have h1 := h.2.1 j hj
    unfold World.cell? World.frozen? at h1 ⊢
    simp only [h2]
    exact h1
theorem Arr.set_cell (h : Arr w b L) (j : Nat) (v : Value) : Arr (w.setCell ⟨b, j, none⟩ v) b (L.set j v) := by
  refine ⟨fun i u hu => ?_, fun i hi => ?_, Nat.lt_of_lt_of_le h.2.2 (by simp)⟩
  · by_cases e : i = j
    · subst e
      have hil : i < L.length := by
        have := (List.getElem?_eq_some_iff.1 hu).1
        simpa using this
      rw [List.getElem?_set_self hil] at hu
      have hc := h.2.1 i hil
      rw [Nat.zero_add] at hc ⊢
      injection hu with hu
      subst hu
      obtain ⟨u0, hu0⟩ := Option.isSome_iff_exists.1 hc.1
      exact World.cell?_setCell_same _ _ _ hu0
    · rw [List.getElem?_set_ne (Ne.symm e)] at hu
      have := h.1 i u hu
      rw [World.cell?_setCell_other _ _ _ _ (by intro hh; injection hh; omega)]
      exact this
  · have h1 := h.2.1 i (by simpa using hi)
    refine ⟨?_, ?_⟩
    · by_cases e : i = j
      · subst e
        rw [Nat.zero_add] at h1 ⊢
        obtain ⟨u0, hu0⟩ := Option.isSome_iff_exists.1 h1.1
        rw [World.cell?_setCell_same _ _ _ hu0]; rfl
      · rw [World.cell?_setCell_other _ _ _ _ (by intro hh; injection hh; omega)]
        exact h1.1
    · rw [World.frozen?_setCell]; exact h1.2
theorem Arr.set_one (h : Arr w b L) {b' : Nat} (hne : b' ≠ b) (j : Nat) (v : Value) : Arr (w.setCell ⟨b', j, none⟩ v) b L := by
  refine ⟨fun i u hu => ?_, fun i hi => ?_, Nat.lt_of_lt_of_le h.2.2 (by simp)⟩
  · rw [World.cell?_setCell_other _ _ _ _ (by intro hh; injection hh; omega)]; exact h.1 i u hu
  · rw [World.cell?_setCell_other _ _ _ _ (by intro hh; injection hh; omega), World.frozen?_setCell]; exact h.2.1 i hi
/-- A load of a row under a guard that lets it. -/
theorem wpList_load_g {P : Program} {ops : Array Oper} {rest : List Oper} {op : Oper} {a : Act} {Q : Exit → Act → World → Prop} (hgd : Region.wanted op (yielded ops a.tmps) = true) (ty : TypeId) (x : Operand) (ho : op.op = .load ty x)
    (b o : Nat) (hx : a.eval x = .pointer (some ⟨b, o, none⟩)) (cs : List Value) (d : TypeDesc) (hc : w.rangeAt b o cs)
    (hu : P.underlying ty = some d) (hd : d.isRow = true) (hi : (P.info? ty).map (·.size) = some cs.length)
    (h : wpList P ops Q rest (a.put op.dst (.agg cs.toArray)) w) : wpList P ops Q (op :: rest) a w := by
  refine wpList_step fun K hK => ?_
  rw [if_pos hgd]
  exact wp_load_mid ty x ho b o hx cs d hc hu hd hi (hK _ _ h)
theorem bodyPost_row {P : Program} {fn : Func} {R : Ending → World → Prop} {a : Act} {p : Tmp} {ty : TypeId} {d : TypeDesc} (h : fn.results = #[.cell p ty]) (hd0 : a.defers = []) (hp : a.tmps.getD p undef = .pointer (some ⟨b, 0, none⟩)) (hA : Arr w b L)
    (hu : P.underlying ty = some d) (hd : d.isRow = true) (hi : (P.info? ty).map (·.size) = some L.length) (hR : R (.returned (.agg L.toArray)) w) : bodyPost P fn R .ret a w := by
  refine bodyPost_ret (v := .agg L.toArray) ?_ hd0 hR
  have hl := run_loadVar_mid (P := P) w b 0 ty L d hA.1 hu hd hi
  simp only [results, h]
  have hp' : a.tmps[p]?.getD undef = .pointer (some ⟨b, 0, none⟩) := by rw [← Array.getD_eq_getD_getElem?]; exact hp
  simp [Sem.run_bind, Result.andThen, hp', asAddr, hl]
theorem bodyPost_row2 {P : Program} {fn : Func} {R : Ending → World → Prop} {a : Act} {p u : Tmp} {ty : TypeId} {d : TypeDesc} {x : Value} (h : fn.results = #[.cell p ty, .tmp u]) (hd0 : a.defers = []) (hp : a.tmps.getD p undef = .pointer (some ⟨b, 0, none⟩)) (hx : a.tmps.getD u undef = x) (hA : Arr w b L)
    (hu : P.underlying ty = some d) (hd : d.isRow = true) (hi : (P.info? ty).map (·.size) = some L.length) (hR : R (.returned (.tuple #[.agg L.toArray, x])) w) : bodyPost P fn R .ret a w := by
  refine bodyPost_ret (v := .tuple #[.agg L.toArray, x]) ?_ hd0 hR
  have hl := run_loadVar_mid (P := P) w b 0 ty L d hA.1 hu hd hi
  rw [results_cell_tmp h]
  simp [hp, hx, asAddr, hl, Result.andThen]
  first
    | done
    | (simp only [← Array.getD_eq_getD_getElem?, hp, hx]; simp [hl])
end
end Go.Proofs.YtofjabejkcicjaaK

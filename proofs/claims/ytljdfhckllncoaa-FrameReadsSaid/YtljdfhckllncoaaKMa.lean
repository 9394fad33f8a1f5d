import Derived.WalkKit
import Derived.WalkSpells
import Derived.WalkLawsBesides
import Derived.Lib.Hide
import Derived.Deep.LoopGhost
import Derived.Maps.AppendAt
import Derived.ProofKit
import Derived.OpenShut
import Derived.Deep.Slices
import Derived.Deep.Strs
import Derived.Test.YtljdfhckllncoaaRows
import Derived.Lib.SmallJoins
import Derived.Deep.RegionLaw
import Derived.DeepKeys
import Derived.Laws.StructEq
import Derived.Deep.MidRow
import Derived.Deep.WholeRow
import Derived.Laws.ResultCell
import Derived.OrdersHeld
import Derived.Laws.IdiomCopy
import Derived.ArgAppend
namespace Go.Proofs.YtljdfhckllncoaaK
open Go.RowKit
set_option linter.unusedSimpArgs false
set_option linter.unusedVariables false

/-! Rows of cells that are read. -/
/-- From the address A on the world reads these values, cell by cell. -/
def At (w : World) (A : Option Addr) (vs : List Value) : Prop := ∀ j u, vs[j]? = some u → ∃ a, A = some a ∧ w.cell? (a.add j) = some u
theorem At.below {w w1 : World} {A : Option Addr} {vs : List Value} (h : At w A vs) (hb : Below w.heap.size w w1) : At w1 A vs := fun j u hu => by
  obtain ⟨a, ha, hc⟩ := h j u hu
  exact ⟨a, ha, (hb.cell (World.block_lt_of_cell? w _ hc)).trans hc⟩
theorem At.nil (w : World) (A : Option Addr) : At w A [] := fun j u hu => by simp at hu
theorem At.get {w : World} {A : Option Addr} {vs : List Value} (h : At w A vs) (j : Nat) (hj : j < vs.length) : ∃ a, A = some a ∧ w.cell? (a.add j) = some vs[j] :=
  h j _ (List.getElem?_eq_getElem hj)
/-- The same for a one-cell encoding. -/
theorem At.map {α : Type} {enc : α → Value} {w : World} {A : Option Addr} {xs : List α} (h : At w A (xs.map enc)) (j : Nat) (hj : j < xs.length) : ∃ a, A = some a ∧ w.cell? (a.add j) = some (enc xs[j]) := by
  have := h j (enc xs[j]) (by rw [List.getElem?_map, List.getElem?_eq_getElem hj]; rfl)
  exact this
def encB (b : UInt8) : Value := .int .u8 (b.toNat : Int)
def encI (k : IntKind) (n : Int) : Value := .int k n
/-- A slice value of bytes, readable in w. -/
def Bs (w : World) (v : Value) (bs : List UInt8) : Prop := ∃ A c, v = .slice A bs.length c ∧ bs.length ≤ c ∧ bs.length ≤ 9223372036854775807 ∧ At w A (bs.map encB)
theorem Bs.below {w w1 : World} {v : Value} {bs : List UInt8} (h : Bs w v bs) (hb : Below w.heap.size w w1) : Bs w1 v bs := by
  obtain ⟨A, c, h1, h2, h3, h4⟩ := h
  exact ⟨A, c, h1, h2, h3, h4.below hb⟩
theorem Bs.at {w : World} {A : Option Addr} {n c : Nat} {bs : List UInt8} (h : Bs w (.slice A n c) bs) : At w A (bs.map encB) := by
  obtain ⟨A', c', he, _, _, h4⟩ := h
  injection he with e1 e2 e3
  rw [e1]; exact h4
theorem Bs.len {w : World} {A : Option Addr} {n c : Nat} {bs : List UInt8} (h : Bs w (.slice A n c) bs) : n = bs.length := by
  obtain ⟨A', c', he, _, _, h4⟩ := h
  injection he with e1 e2 e3
theorem Bs.cells {w : World} {A : Option Addr} {n c : Nat} {bs : List UInt8} (h : Bs w (.slice A n c) bs) : (bs.map encB).length = n * 1 := by
  rw [List.length_map, h.len]; omega
/-- A slice of slices of bytes. -/
def Bss (w : World) (v : Value) (xss : List (List UInt8)) : Prop :=
  ∃ A c vs, v = .slice A xss.length c ∧ xss.length ≤ c ∧ xss.length ≤ 9223372036854775807 ∧ vs.length = xss.length ∧ At w A vs ∧ ∀ j (hj : j < xss.length) (hv : j < vs.length), Bs w vs[j] xss[j]
theorem Bss.get {w : World} {A : Option Addr} {n c : Nat} {xss : List (List UInt8)} (h : Bss w (.slice A n c) xss) (j : Nat) (hj : j < xss.length) :
    ∃ a v, A = some a ∧ w.cell? (a.add j) = some v ∧ Bs w v xss[j] := by
  obtain ⟨A', c', vs, he, h1, h2, h3, h4, h5⟩ := h
  injection he with e1 e2 e3
  subst e1
  obtain ⟨a, ha, hc⟩ := h4.get j (by omega)
  exact ⟨a, vs[j]'(by omega), ha, hc, h5 j hj (by omega)⟩

theorem At.new (w : World) (cs : Array Value) (T : TypeId) (fz : Nat × Nat) : At (w.alloc (.cells cs T fz)) (some ⟨w.heap.size, 0, none⟩) cs.toList := by
  intro j u hu
  refine ⟨_, rfl, ?_⟩
  rw [show (⟨w.heap.size, 0, none⟩ : Addr).add j = ⟨w.heap.size, j, none⟩ from by unfold Addr.add; split <;> simp_all]
  rw [cell_of_row (w.alloc (.cells cs T fz)) w.heap.size j cs T fz (heap_alloc_new w _)]
  simpa using hu
theorem At.alloc {w : World} {A : Option Addr} {vs : List Value} (h : At w A vs) (o : Obj) : At (w.alloc o) A vs := h.below ((Below.refl _ _).alloc (Nat.le_refl _) o)
theorem Bs.alloc {w : World} {v : Value} {bs : List UInt8} (h : Bs w v bs) (o : Obj) : Bs (w.alloc o) v bs := h.below ((Below.refl _ _).alloc (Nat.le_refl _) o)
theorem Bs.new {w : World} {bs : List UInt8} {cs : Array Value} {n b : Nat} {T : TypeId} {fz : Nat × Nat} (hb : b = w.heap.size) (h : cs.toList = bs.map encB) (hn : n = bs.length) (hl : n ≤ 9223372036854775807) :
    Bs (w.alloc (.cells cs T fz)) (.slice (some ⟨b, 0, none⟩) n n) bs := by
  subst hb
  subst hn
  exact ⟨_, _, rfl, Nat.le_refl _, hl, h ▸ At.new w cs T fz⟩
/-- A new row of slices of bytes. -/
theorem Bss.new {w : World} {vs : List Value} {xss : List (List UInt8)} {n b : Nat} {T : TypeId} {fz : Nat × Nat} (hb : b = w.heap.size) (hn : n = xss.length) (hv : vs.length = xss.length) (hl : n ≤ 9223372036854775807)
    (h : ∀ j (hj : j < xss.length) (hv : j < vs.length), Bs w vs[j] xss[j]) : Bss (w.alloc (.cells vs.toArray T fz)) (.slice (some ⟨b, 0, none⟩) n n) xss := by
  subst hb
  subst hn
  refine ⟨_, _, vs, rfl, Nat.le_refl _, hl, hv, ?_, fun j hj hj' => (h j hj hj').alloc _⟩
  have := At.new w vs.toArray T fz
  simpa using this
theorem Bss.new1 {w : World} {v : Value} {bs : List UInt8} {b : Nat} {T : TypeId} {fz : Nat × Nat} (hb : b = w.heap.size) (h : Bs w v bs) : Bss (w.alloc (.cells #[v] T fz)) (.slice (some ⟨b, 0, none⟩) 1 1) [bs] :=
  Bss.new (vs := [v]) hb rfl rfl (by omega) (fun j hj _ => by
    obtain rfl : j = 0 := by simp at hj; exact hj
    exact h)
theorem Bss.new2 {w : World} {v v' : Value} {bs bs' : List UInt8} {b : Nat} {T : TypeId} {fz : Nat × Nat} (hb : b = w.heap.size) (h : Bs w v bs) (h' : Bs w v' bs') : Bss (w.alloc (.cells #[v, v'] T fz)) (.slice (some ⟨b, 0, none⟩) 2 2) [bs, bs'] :=
  Bss.new (vs := [v, v']) hb rfl rfl (by omega) (fun j hj _ => by
    match j, hj with
    | 0, _ => exact h
    | 1, _ => exact h')
theorem Bss.nil (w : World) : Bss w (.slice none 0 0) [] := ⟨none, 0, [], rfl, by simp, by simp, rfl, At.nil w _, fun j hj => by simp at hj⟩
theorem Bss.below {w w1 : World} {v : Value} {xss : List (List UInt8)} (h : Bss w v xss) (hb : Below w.heap.size w w1) : Bss w1 v xss := by
  obtain ⟨A, c, vs, h1, h2, h3, h4, h5, h6⟩ := h
  exact ⟨A, c, vs, h1, h2, h3, h4, h5.below hb, fun j hj hv => (h6 j hj hv).below hb⟩
theorem Bss.alloc {w : World} {v : Value} {xss : List (List UInt8)} (h : Bss w v xss) (o : Obj) : Bss (w.alloc o) v xss := h.below ((Below.refl _ _).alloc (Nat.le_refl _) o)
theorem encB_all (bs : List UInt8) : ∀ u ∈ bs.map encB, u.oneCell' = true := by
  intro u hu
  obtain ⟨b, _, rfl⟩ := List.mem_map.1 hu
  rfl
theorem encB_one (b : UInt8) : (encB b).oneCell' = true := rfl
theorem At.length_pos {w : World} {A : Option Addr} {vs : List Value} (h : At w A vs) (hv : vs ≠ []) : ∃ a, A = some a := by
  cases vs with
  | nil => exact absurd rfl hv
  | cons u l => obtain ⟨a, ha, _⟩ := h 0 u rfl; exact ⟨a, ha⟩
/-- 'append(s, x...)': s is a row of the call's own, x reads as ys. -/
theorem wp_append {P : Program} {ops : Array Oper} {rest : List Oper} {o : Oper} {a : Act} {Q : Exit → Act → World → Prop} {W : World} (base : Nat) (hgd : Region.wanted o (yielded ops a.tmps) = true) (s x : Operand) (t e : TypeId) (z : Value) (size bytes : Nat)
    (ho : o.op = .call { callee := .builtin .append, args := #[s, x], argTypes := #[t, t] })
    (ht : P.underlying t = some (.slice e)) (hinfo : (P.info? e).map (fun i => (i.zero, i.size, i.bytes)) = some (some z, size, bytes)) (hz : z.cells.size = size) (hs0 : 0 < size) (hb0 : 0 < bytes)
    (v : Value) (n : Nat) (xs : List Value) (A : Option Addr) (m c : Nat) (ys : List Value) (hs : a.eval s = v) (hx : a.eval x = .slice A m c)
    (HO : W.ownsRow base e size v n xs) (HR : At W A ys) (hm : ys.length = m * size) (h1 : ∀ u ∈ ys, u.oneCell' = true)
    (hbase : base ≤ W.heap.size) (hl : (n + m) * bytes ≤ 140737488355328)
    (h : ∀ v1 w1, w1.ownsRow base e size v1 (n + m) (xs ++ ys) → W.grownBy w1 v.ownBlock → (v1.ownBlock = v.ownBlock ∨ v1.ownBlock = some W.heap.size) → wpList P ops Q rest (a.put o.dst v1) w1) :
    wpList P ops Q (o :: rest) a W := by
  obtain ⟨i0, hi, hzz⟩ := Option.map_eq_some_iff.1 hinfo
  simp only [Prod.mk.injEq] at hzz
  obtain ⟨hz0, hz1, hz2⟩ := hzz
  have hlen : n + m ≤ 140737488355328 := Nat.le_trans (Nat.le_mul_of_pos_right _ hb0) hl
  have hrun : ∃ v1 w1, (Builtin.append_ #[t, t] o.type #[v, .slice A m c]).run P W = .ok v1 w1 ∧ w1.ownsRow base e size v1 (n + m) (xs ++ ys) ∧ W.grownBy w1 v.ownBlock ∧ (v1.ownBlock = v.ownBlock ∨ v1.ownBlock = some W.heap.size) := by
    rcases A with _ | ad
    · have h0 : ys = [] := by
        by_cases hy : ys = []
        · exact hy
        · obtain ⟨a', h'⟩ := HR.length_pos hy
          cases h'
      subst h0
      have hm0 : m = 0 := by
        rcases Nat.eq_zero_or_pos m with h0 | h0
        · exact h0
        · have := Nat.mul_pos h0 hs0
          simp at hm; omega
      subst hm0
      refine ⟨v, W, ?_, by simpa using HO, World.grownBy.refl W _, .inl rfl⟩
      rcases HO.2 with ⟨rfl, hn⟩ | ⟨g, cap, cur, rfl, _, _, hnc, _⟩
      · simp [Builtin.append_, run_underlying ht, sizeOf, typeInfo, hi, Builtin.lenOf, Builtin.firstCells, hn]
      · simp [Builtin.append_, run_underlying ht, sizeOf, typeInfo, hi, Builtin.lenOf, Builtin.firstCells, hnc, storeCells]
    · have hcells : ∀ j u, ys[j]? = some u → W.cell? (ad.add j) = some u := by
        intro j u hu
        obtain ⟨ad', h', hc⟩ := HR j u hu
        injection h' with h'
        subst h'
        exact hc
      obtain ⟨v1, w1, hr, h2, h3, _, h5⟩ := run_append_own_at (P := P) W base t o.type e i0 z size bytes ht hi hz0 hz1 hz2 hz hs0 v n xs HO ad m c ys hm hcells h1 (by simp only [maxLen]; omega) hl hbase
      exact ⟨v1, w1, hr, h2, h3, h5⟩
  obtain ⟨v1, w1, hr, hown, hg, hat⟩ := hrun
  refine wpList_step fun K hK => ?_
  rw [if_pos hgd]
  unfold Oper.wp execOp
  simp only [ho, resolve, invoke, builtin, Sem.run_bind, Sem.run_pure, Result.andThen_ok, List.map_toArray, List.map_cons, List.map_nil, hs, hx, hr]
  exact hK _ _ (h v1 w1 hown hg hat)
/-- What is owned reads. -/
theorem own_at {w : World} {base n size : Nat} {e : TypeId} {A : Option Addr} {c : Nat} {xs : List Value} (h : w.ownsRow base e size (.slice A n c) n xs) : At w A xs := by
  intro j u hu
  rcases h.2 with ⟨he, hn⟩ | ⟨g, cap, cur, he, _⟩
  · subst hn
    have := h.1
    simp at this
    subst this
    simp at hu
  · injection he with e1 e2 e3
    subst e1
    exact ⟨_, rfl, h.cells (g := g) rfl j u hu⟩
theorem own_form {w : World} {base n size : Nat} {e : TypeId} {v : Value} {xs : List Value} (h : w.ownsRow base e size v n xs) : ∃ A c, v = .slice A n c ∧ n ≤ c ∧ n ≤ 9223372036854775807 := by
  rcases h.2 with ⟨rfl, hn⟩ | ⟨g, cap, cur, rfl, _, _, hnc, hcm, _⟩
  · exact ⟨none, 0, by rw [hn], by omega, by omega⟩
  · exact ⟨_, cap, rfl, hnc, by simp only [maxLen] at hcm; omega⟩
/-- A row of bytes of the call's own is a slice of bytes that reads. -/
theorem own_bs {w : World} {base n : Nat} {e : TypeId} {v : Value} {bs : List UInt8} (h : w.ownsRow base e 1 v n (bs.map encB)) : n = bs.length ∧ Bs w v bs := by
  have hl := h.1
  simp at hl
  obtain ⟨A, c, rfl, h1, h2⟩ := own_form h
  subst hl
  exact ⟨rfl, A, c, rfl, h1, h2, own_at h⟩
/-- A row that isn't empty: its block, its cells. -/
theorem own_pos {w : World} {base n size : Nat} {e : TypeId} {v : Value} {xs : List Value} (h : w.ownsRow base e size v n xs) (hn : 0 < n) : ∃ g c, v = .slice (some ⟨g, 0, none⟩) n c ∧ n ≤ c ∧ base ≤ g ∧ g < w.heap.size ∧ n ≤ 9223372036854775807 := by
  rcases h.2 with ⟨rfl, hn⟩ | ⟨g, cap, cur, rfl, hb, hh, hnc, hcm, _⟩
  · omega
  · exact ⟨g, cap, rfl, hnc, hb, (Array.getElem?_eq_some_iff.1 hh).1, by simp only [maxLen] at hcm; omega⟩
theorem own_cell {w : World} {base g n c size : Nat} {e : TypeId} {xs : List Value} (h : w.ownsRow base e size (.slice (some ⟨g, 0, none⟩) n c) n xs) (j : Nat) (u : Value) (hu : xs[j]? = some u) : w.cell? ⟨g, j, none⟩ = some u ∧ w.frozen? ⟨g, j, none⟩ = false := by
  constructor
  · have hc := h.cells (g := g) rfl j u hu
    rwa [show (⟨g, 0, none⟩ : Addr).add j = ⟨g, j, none⟩ from by unfold Addr.add; split <;> simp_all] at hc
  · rcases h.2 with ⟨h', _⟩ | ⟨g', cap', cur, h', _, hh, _⟩
    · cases h'
    · have : g = g' := by injection h' with h'; injection h' with h'; injection h' with h'
      subst this
      simp [World.frozen?, hh]
/-- An empty slice literal. -/
theorem own_empty {w : World} {base b : Nat} {e : TypeId} {size : Nat} (hb : b = w.heap.size) (h : base ≤ w.heap.size) : (w.alloc (.cells #[] e)).ownsRow base e size (.slice (some ⟨b, 0, none⟩) 0 0) 0 [] := by
  subst hb
  exact World.ownsRow_made _ #[] 0 h (by decide) (by simp)
theorem own_base {w : World} {base : Nat} {e : TypeId} {size n : Nat} {v : Value} {xs : List Value} (h : w.ownsRow base e size v n xs) (k : Nat) (hk : v.ownBlock = some k) : base ≤ k := (h.lt k hk).1
theorem below_grown {B : Nat} {w w1 w2 : World} (h : Below B w w1) {e : TypeId} {size n : Nat} {v : Value} {xs : List Value} (ho : w1.ownsRow B e size v n xs) (hg : w1.grownBy w2 v.ownBlock) (hB : B ≤ w1.heap.size) : Below B w w2 :=
  h.grown hg hB (own_base ho)
theorem below_size {w w1 : World} (h : Below w.heap.size w w1) : w.heap.size ≤ w1.heap.size := h.size
theorem own_below {w w1 : World} {base : Nat} {e : TypeId} {size n : Nat} {v : Value} {xs : List Value} (h : w.ownsRow base e size v n xs) (hb : Below w.heap.size w w1) : w1.ownsRow base e size v n xs :=
  h.kept (row := none) ⟨hb.os, hb.tape, hb.output, hb.size, fun i hi _ => hb.block i hi⟩ (by cases hv : v.ownBlock <;> simp)
/-- A slice of whole numbers, readable in w. -/
def Is (k : IntKind) (w : World) (v : Value) (xs : List Int) : Prop := ∃ A c, v = .slice A xs.length c ∧ xs.length ≤ c ∧ xs.length ≤ 9223372036854775807 ∧ At w A (xs.map (Value.int k))
theorem Is.below {k : IntKind} {w w1 : World} {v : Value} {xs : List Int} (h : Is k w v xs) (hb : Below w.heap.size w w1) : Is k w1 v xs := by
  obtain ⟨A, c, h1, h2, h3, h4⟩ := h
  exact ⟨A, c, h1, h2, h3, h4.below hb⟩
theorem Is.at {k : IntKind} {w : World} {A : Option Addr} {n c : Nat} {xs : List Int} (h : Is k w (.slice A n c) xs) : At w A (xs.map (Value.int k)) := by
  obtain ⟨A', c', he, _, _, h4⟩ := h
  injection he with e1 e2 e3
  rw [e1]; exact h4
theorem Is.len {k : IntKind} {w : World} {A : Option Addr} {n c : Nat} {xs : List Int} (h : Is k w (.slice A n c) xs) : n = xs.length := by
  obtain ⟨A', c', he, _, _, h4⟩ := h
  injection he with e1 e2 e3
theorem Is.max {k : IntKind} {w : World} {A : Option Addr} {n c : Nat} {xs : List Int} (h : Is k w (.slice A n c) xs) : n ≤ 9223372036854775807 := by
  obtain ⟨A', c', he, _, h3, h4⟩ := h
  injection he with e1 e2 e3
  omega
theorem Is.new {k : IntKind} {w : World} {xs : List Int} {cs : Array Value} {n b : Nat} {T : TypeId} {fz : Nat × Nat} (hb : b = w.heap.size) (h : cs.toList = xs.map (Value.int k)) (hn : n = xs.length) (hl : n ≤ 9223372036854775807) :
    Is k (w.alloc (.cells cs T fz)) (.slice (some ⟨b, 0, none⟩) n n) xs := by
  subst hb
  subst hn
  exact ⟨_, _, rfl, Nat.le_refl _, hl, h ▸ At.new w cs T fz⟩
theorem Is.alloc {k : IntKind} {w : World} {v : Value} {xs : List Int} (h : Is k w v xs) (o : Obj) : Is k (w.alloc o) v xs := h.below ((Below.refl _ _).alloc (Nat.le_refl _) o)
/-- A text out of bytes. -/
def str (bs : List UInt8) : ByteArray := ⟨bs.toArray⟩
theorem str_size (bs : List UInt8) : (str bs).size = bs.length := by simp [str, ByteArray.size]
@[go_sem] theorem str_toList (bs : List UInt8) : (str bs).toList = bs := ByteArray.toList_mk bs
end Go.Proofs.YtljdfhckllncoaaK

namespace Go.Proofs.YtljdfhckllncoaaK
open Go.RowKit Go.ChangeShapes Go.WideShapes Go.ChangeAt Go.ChangeMaps
set_option linter.unusedSimpArgs false
set_option linter.unusedVariables false
/-! Arguments are opened: what reads as data is a list. -/
section
variable {H : Type} {enc : TypeId × Value → H} {P : Program} {w : World} {base : Nat} {spare : Nat → Bool} {held : Bool}
def toB (n : Int) : UInt8 := UInt8.ofNat n.toNat
theorem toB_back {n : Int} (h : (Lit.int .u8 n).wf = true) : encB (toB n) = .int .u8 n := by
  have := bounds_u8 h
  unfold encB toB
  congr 1
  have h1 : (UInt8.ofNat n.toNat).toNat = n.toNat := by
    rw [UInt8.toNat_ofNat']; omega
  rw [h1]; omega
theorem bytes_of_trod {t e : TypeId} {fuel : Nat} {v : Value} {x : DataW H × List MemPlace} (ht : P.underlying t = some (.slice e)) (he : P.underlying e = some (.int .u8)) (hc : P.cellsOf e = 1)
    (h : DataW.trod enc P w base spare held fuel t [v] = some x) : ∃ bs, Bs w v bs := by
  rcases open_ints ht he hc h with ⟨hcs, hx⟩ | ⟨a, len, cap, zs, hcs, _, hl, hm, hz, hx, hcell, hwz⟩
  · simp at hcs; subst hcs
    exact ⟨[], none, 0, rfl, by simp, by simp, At.nil w _⟩
  · simp at hcs; subst hcs
    have hlz : len ≤ zs.length := by rw [hz]; split <;> omega
    refine ⟨(zs.take len).map toB, some a, cap, by simp; omega, by simp; omega, by simp; simp only [maxLen] at hm; omega, ?_⟩
    intro j u hu
    refine ⟨a, rfl, ?_⟩
    have hj : j < len := by
      rcases Nat.lt_or_ge j len with h | h
      · exact h
      · rw [List.getElem?_eq_none (by simp; omega)] at hu; cases hu
    rw [hcell j (by omega)]
    have hjz : j < zs.length := by omega
    rw [List.getElem?_map, List.getElem?_map, List.getElem?_take_of_lt hj, List.getElem?_eq_getElem hjz] at hu
    simp only [Option.map_some, Option.some.injEq] at hu
    rw [← hu, toB_back (hwz _ (List.getElem_mem _))]
    simp [List.getD_eq_getElem?_getD, List.getElem?_eq_getElem hjz]
/-- From a choice for each index, a list. -/
theorem list_of {α : Type} {R : Nat → α → Prop} : ∀ n : Nat, (∀ i, i < n → ∃ y, R i y) → ∃ l : List α, l.length = n ∧ ∀ i (h : i < l.length), R i l[i]
  | 0, _ => ⟨[], rfl, fun i h => by simp at h⟩
  | n + 1, h => by
    obtain ⟨l, hl, hr⟩ := list_of n (fun i hi => h i (by omega))
    obtain ⟨y, hy⟩ := h n (by omega)
    refine ⟨l ++ [y], by simp [hl], fun i hi => ?_⟩
    rw [List.getElem_append]
    split
    · exact hr i _
    · simp at hi
      have : i = n := by omega
      subst this
      simpa using hy
theorem bss_of_trod {t e e' : TypeId} {fuel : Nat} {v : Value} {x : DataW H × List MemPlace} (ht : P.underlying t = some (.slice e)) (hc : P.cellsOf e = 1) (he : P.underlying e = some (.slice e')) (he' : P.underlying e' = some (.int .u8)) (hc' : P.cellsOf e' = 1)
    (h : DataW.trod enc P w base spare held fuel t [v] = some x) : ∃ xss, Bss w v xss := by
  rcases Go.Deep.open_slice1 ht hc h with ⟨hcs, hx⟩ | ⟨a, len, cap, m, n, V, D, Pl, hcs, hb, hl, hm, hmm, hx, hel⟩
  · simp at hcs; subst hcs
    exact ⟨[], Bss.nil w⟩
  · simp at hcs; subst hcs
    have hlm : len ≤ m := by rw [hmm]; split <;> omega
    obtain ⟨vs, hvl, hv⟩ := list_of (R := fun i u => w.cell? (a.add i) = some u ∧ ∃ bs, Bs w u bs) len (fun i hi => ⟨V i, (hel i (by omega)).1, bytes_of_trod he he' hc' (hel i (by omega)).2⟩)
    obtain ⟨xss, hxl, hx'⟩ := list_of (R := fun i bs => ∃ h : i < vs.length, Bs w vs[i] bs) len (fun i hi => by
      obtain ⟨bs, hbs⟩ := (hv i (by omega)).2
      exact ⟨bs, by omega, hbs⟩)
    refine ⟨xss, some a, cap, vs, by rw [hxl], by omega, by simp only [maxLen] at hm; omega, by omega, ?_, fun j hj hjv => (hx' j hj).2⟩
    intro j u hu
    have hj : j < vs.length := by
      rcases Nat.lt_or_ge j vs.length with h | h
      · exact h
      · rw [List.getElem?_eq_none h] at hu; cases hu
    rw [List.getElem?_eq_getElem hj] at hu
    injection hu with hu
    exact ⟨a, rfl, hu ▸ (hv j hj).1⟩
theorem Bs.slice {v : Value} {bs : List UInt8} (h : Bs w v bs) : ∃ A n c, v = .slice A n c ∧ n = bs.length := by
  obtain ⟨A, c, rfl, _⟩ := h
  exact ⟨A, _, c, rfl, rfl⟩
theorem Bss.slice {v : Value} {xss : List (List UInt8)} (h : Bss w v xss) : ∃ A n c, v = .slice A n c ∧ n = xss.length := by
  obtain ⟨A, c, vs, rfl, _⟩ := h
  exact ⟨A, _, c, rfl, rfl⟩
theorem slice_cells {t e : TypeId} {v : Value} (ht : P.underlying t = some (.slice e)) (hv : Value.okWide P w .any base t v) : v.cells.toList = [v] := by
  obtain ⟨a, len, cap, rfl⟩ := okWide_slice ht hv
  rfl
theorem open_bytes {t e : TypeId} {v : Value} {d : DataW H} {ps : List MemPlace} {b2 : Nat} (ht : P.underlying t = some (.slice e)) (he : P.underlying e = some (.int .u8)) (hc : P.cellsOf e = 1)
    (hv : Value.okWide P w .any b2 t v) (h : DataW.Trod enc P w base spare held t v d ps) : ∃ A n c bs, v = .slice A n c ∧ n = bs.length ∧ Bs w (.slice A n c) bs := by
  obtain ⟨fuel, hf⟩ := h
  rw [slice_cells ht hv] at hf
  obtain ⟨bs, hb⟩ := bytes_of_trod ht he hc hf
  obtain ⟨A, n, c, rfl, hn⟩ := hb.slice
  exact ⟨A, n, c, bs, rfl, hn, hb⟩
theorem open_bss {t e e' : TypeId} {v : Value} {d : DataW H} {ps : List MemPlace} {b2 : Nat} (ht : P.underlying t = some (.slice e)) (hc : P.cellsOf e = 1) (he : P.underlying e = some (.slice e')) (he' : P.underlying e' = some (.int .u8)) (hc' : P.cellsOf e' = 1)
    (hv : Value.okWide P w .any b2 t v) (h : DataW.Trod enc P w base spare held t v d ps) : ∃ A n c xss, v = .slice A n c ∧ n = xss.length ∧ Bss w (.slice A n c) xss := by
  obtain ⟨fuel, hf⟩ := h
  rw [slice_cells ht hv] at hf
  obtain ⟨xss, hb⟩ := bss_of_trod ht hc he he' hc' hf
  obtain ⟨A, n, c, rfl, hn⟩ := hb.slice
  exact ⟨A, n, c, xss, rfl, hn, hb⟩
end
end Go.Proofs.YtljdfhckllncoaaK

namespace Go.Proofs.YtljdfhckllncoaaK
open Go.RowKit Go.ChangeShapes Go.WideShapes Go.ChangeAt Go.ChangeMaps
set_option linter.unusedSimpArgs false
set_option linter.unusedVariables false
section
variable {H : Type} {enc : TypeId × Value → H} {P : Program} {w : World} {base : Nat} {spare : Nat → Bool} {held : Bool}
/-- An array of bytes, its cells as bytes. -/
theorem bytes_of_array {t e : TypeId} {n fuel : Nat} {cs : List Value} {x : DataW H × List MemPlace} (ht : P.underlying t = some (.array n e)) (he : P.underlying e = some (.int .u8)) (hc : P.cellsOf e = 1) (hn : P.cellsOf t = n)
    (h : DataW.trod enc P w base spare held fuel t cs = some x) : ∃ bs : List UInt8, cs = bs.map encB ∧ bs.length = n := by
  obtain ⟨xs, m, _, _, hl, hx, hi⟩ := DataW.trod_array ht h
  rw [hn] at hl
  obtain ⟨bs, hbl, hb⟩ := list_of (R := fun i (b : UInt8) => cs[i]? = some (encB b)) n (fun i hin => by
    have h1 := hi i hin
    rw [hc, Nat.mul_one] at h1
    have hcl : i < cs.length := by omega
    have h2 : (cs.drop i).take 1 = [cs[i]] := by rw [List.drop_eq_getElem_cons hcl]; rfl
    rw [h2, List.getElem?_eq_getElem (by omega)] at h1
    obtain ⟨z, e0, _, wz⟩ := DataW.trod_int he h1
    simp at e0
    exact ⟨toB z, by rw [toB_back wz, List.getElem?_eq_getElem hcl, e0]⟩)
  refine ⟨bs, ?_, hbl⟩
  apply List.ext_getElem?
  intro i
  rw [List.getElem?_map]
  by_cases hin : i < n
  · rw [List.getElem?_eq_getElem (show i < bs.length by omega)]
    exact hb i (by omega)
  · rw [List.getElem?_eq_none (by omega), List.getElem?_eq_none (by omega)]
    rfl
theorem open_arr {t e : TypeId} {n : Nat} {v : Value} {d : DataW H} {ps : List MemPlace} {b2 : Nat} (ht : P.underlying t = some (.array n e)) (he : P.underlying e = some (.int .u8)) (hc : P.cellsOf e = 1) (hn : P.cellsOf t = n)
    (hv : Value.okWide P w .any b2 t v) (h : DataW.Trod enc P w base spare held t v d ps) : ∃ bs : List UInt8, v = .agg (bs.map encB).toArray ∧ bs.length = n := by
  obtain ⟨fuel, hf⟩ := h
  unfold Value.okWide at hv
  rw [ht] at hv
  obtain ⟨cs, rfl, hsz, _⟩ := hv
  obtain ⟨bs, h1, h2⟩ := bytes_of_array (cs := cs.toList) ht he hc hn hf
  exact ⟨bs, by rw [← h1], h2⟩
end
end Go.Proofs.YtljdfhckllncoaaK

namespace Go.Proofs.YtljdfhckllncoaaK
open Go.RowKit Go.ChangeShapes Go.WideShapes Go.ChangeAt Go.ChangeMaps
set_option linter.unusedSimpArgs false
set_option linter.unusedVariables false
section
variable {H : Type} {enc : TypeId × Value → H} {w : World} {base : Nat} {spare : Nat → Bool} {held : Bool}
set_option maxRecDepth 100000 in
theorem open_node {v : Value} {d : DataW H} {ps : List MemPlace} {b2 : Nat} (hv : Value.okWide Try.prog w .any b2 45 v) (h : DataW.Trod enc Try.prog w base spare held 45 v d ps) :
    ∃ (k ep : Int) (A : Option Addr) (n c : Nat) (bs : List UInt8), v = .agg #[.int .i64 k, .int .u64 ep, .slice A n c] ∧ Bs w (.slice A n c) bs ∧ (Lit.int .i64 k).wf = true ∧ 0 ≤ ep ∧ ep < 18446744073709551616 := by
  obtain ⟨v0, v1, v2, y0, y1, y2, n, rfl, _, _, h0, h1, h2⟩ := Go.Joins.open_agg3 Try.underlying45 (by kernel_rfl) (by kernel_rfl) hv h
  obtain ⟨z0, e0, _, w0⟩ := DataW.trod_int Try.underlying3 h0
  obtain ⟨z1, e1, _, w1⟩ := DataW.trod_int Try.underlying43 h1
  simp at e0 e1
  subst e0 e1
  obtain ⟨bs, hb⟩ := bytes_of_trod Try.underlying22 Try.underlying5 (by kernel_rfl) h2
  obtain ⟨A, n, c, rfl, _⟩ := hb.slice
  have := bounds_u64 w1
  exact ⟨z0, z1, A, n, c, bs, rfl, hb, w0, this.1, by omega⟩
/-- A commit's cells. -/
def cmtC (ep : Int) (live : List UInt8) (sum : Int) : Array Value := ([Value.int .u64 ep] ++ (live.map encB ++ [Value.int .u32 sum])).toArray
set_option maxRecDepth 100000 in
theorem open_commit {v : Value} {d : DataW H} {ps : List MemPlace} {b2 : Nat} (hv : Value.okWide Try.prog w .any b2 50 v) (h : DataW.Trod enc Try.prog w base spare held 50 v d ps) :
    ∃ (ep : Int) (live : List UInt8) (sum : Int), v = .agg (cmtC ep live sum) ∧ live.length = 32 ∧ 0 ≤ ep ∧ ep < 18446744073709551616 ∧ 0 ≤ sum ∧ sum < 4294967296 := by
  obtain ⟨cs, rfl, hsz⟩ := okWide_struct Try.underlying50 hv
  obtain ⟨fuel, hf⟩ := h
  obtain ⟨y0, y1, y2, n, _, hl, h0, h1, h2⟩ := Go.Deep.trod_struct3 Try.underlying50 hf
  rw [show Try.prog.cellsOf 43 = 1 from by kernel_rfl] at h0
  rw [show Try.prog.cellsOf 47 = 32 from by kernel_rfl] at h1
  rw [show Try.prog.cellsOf 48 = 1 from by kernel_rfl] at h2
  rw [show Try.prog.cellsOf 50 = 34 from by kernel_rfl] at hl
  obtain ⟨z0, e0, _, w0⟩ := DataW.trod_int Try.underlying43 h0
  obtain ⟨live, e1, l1⟩ := bytes_of_array Try.underlying47 Try.underlying5 (by kernel_rfl) (by kernel_rfl) h1
  obtain ⟨z2, e2, _, w2⟩ := DataW.trod_int Try.underlying48 h2
  have b0 := bounds_u64 w0
  have b2 := bounds_u32 w2
  refine ⟨z0, live, z2, ?_, l1, b0.1, by omega, b2.1, by omega⟩
  congr 1
  apply Array.toList_inj.1
  have hcl : cs.toList.length = 34 := hl
  unfold cmtC
  show cs.toList = _ ++ (_ ++ _)
  rw [← e0, ← e1, ← e2]
  show cs.toList = (List.drop 0 cs.toList).take 1 ++ ((List.drop 1 cs.toList).take 32 ++ (List.drop 33 cs.toList).take 1)
  have e4 : (List.drop 33 cs.toList).take 1 = List.drop 33 cs.toList := List.take_of_length_le (by rw [List.length_drop]; omega)
  have e5 : List.drop 33 cs.toList = List.drop 32 (List.drop 1 cs.toList) := by rw [List.drop_drop]
  rw [e4, e5, List.take_append_drop, List.drop_zero, List.take_append_drop]
end
end Go.Proofs.YtljdfhckllncoaaK

namespace Go.Proofs.YtljdfhckllncoaaK
open Go.RowKit Go.ChangeShapes Go.WideShapes Go.ChangeAt Go.ChangeMaps
set_option linter.unusedSimpArgs false
set_option linter.unusedVariables false
section
variable {H : Type} {enc : TypeId × Value → H} {P : Program} {w : World} {base : Nat} {spare : Nat → Bool} {held : Bool}
/-- An array of two ints. -/
theorem open_two {t e : TypeId} {v : Value} {d : DataW H} {ps : List MemPlace} {b2 : Nat} (ht : P.underlying t = some (.array 2 e)) (he : P.underlying e = some (.int .i64)) (hc : P.cellsOf e = 1) (hn : P.cellsOf t = 2)
    (hv : Value.okWide P w .any b2 t v) (h : DataW.Trod enc P w base spare held t v d ps) : ∃ x y : Int, v = .agg #[.int .i64 x, .int .i64 y] := by
  obtain ⟨fuel, hf⟩ := h
  unfold Value.okWide at hv
  rw [ht] at hv
  obtain ⟨cs, rfl, hsz, _⟩ := hv
  obtain ⟨xs, m, _, _, hl, hx, hi⟩ := DataW.trod_array ht hf
  rw [hn] at hl
  obtain ⟨cs⟩ := cs
  match cs, hl with
  | [a, b], _ =>
    have h0 := hi 0 (by decide)
    have h1 := hi 1 (by decide)
    rw [hc, List.getElem?_eq_getElem (show 0 < xs.length by omega)] at h0
    rw [hc, List.getElem?_eq_getElem (show 1 < xs.length by omega)] at h1
    obtain ⟨x, e0, _, _⟩ := DataW.trod_int he h0
    obtain ⟨y, e1, _, _⟩ := DataW.trod_int he h1
    have f0 : [a] = [Value.int .i64 x] := e0
    have f1 : [b] = [Value.int .i64 y] := e1
    simp only [List.cons.injEq, and_true] at f0 f1
    exact ⟨x, y, by rw [f0, f1]⟩
end
end Go.Proofs.YtljdfhckllncoaaK

namespace Go.Proofs.YtljdfhckllncoaaK
open Go.RowKit
set_option linter.unusedSimpArgs false
set_option linter.unusedVariables false
/-- The same inside a region that draws its order ('go_region_law'). -/
theorem step_append {P : Program} {ops : Array Oper} {o : Oper} {a : Act} {K : Act → World → Prop} {Q : Exit → Act → World → Prop} {E : Prop} {W : World} (base : Nat) (hgd : Region.wanted o (yielded ops a.tmps) = true) (s x : Operand) (t e : TypeId) (z : Value) (size bytes : Nat)
    (ho : o.op = .call { callee := .builtin .append, args := #[s, x], argTypes := #[t, t] })
    (ht : P.underlying t = some (.slice e)) (hinfo : (P.info? e).map (fun i => (i.zero, i.size, i.bytes)) = some (some z, size, bytes)) (hz : z.cells.size = size) (hs0 : 0 < size) (hb0 : 0 < bytes)
    (v : Value) (n : Nat) (xs : List Value) (A : Option Addr) (m c : Nat) (ys : List Value) (hs : a.eval s = v) (hx : a.eval x = .slice A m c)
    (HO : W.ownsRow base e size v n xs) (HR : At W A ys) (hm : ys.length = m * size) (h1 : ∀ u ∈ ys, u.oneCell' = true)
    (hbase : base ≤ W.heap.size) (hl : (n + m) * bytes ≤ 140737488355328)
    (h : ∀ v1 w1, w1.ownsRow base e size v1 (n + m) (xs ++ ys) → W.grownBy w1 v.ownBlock → (v1.ownBlock = v.ownBlock ∨ v1.ownBlock = some W.heap.size) → K (a.put o.dst v1) w1) :
    if Region.wanted o (yielded ops a.tmps) = true then Oper.wp P o a W K Q else E := by
  obtain ⟨i0, hi, hzz⟩ := Option.map_eq_some_iff.1 hinfo
  simp only [Prod.mk.injEq] at hzz
  obtain ⟨hz0, hz1, hz2⟩ := hzz
  have hlen : n + m ≤ 140737488355328 := Nat.le_trans (Nat.le_mul_of_pos_right _ hb0) hl
  have hrun : ∃ v1 w1, (Builtin.append_ #[t, t] o.type #[v, .slice A m c]).run P W = .ok v1 w1 ∧ w1.ownsRow base e size v1 (n + m) (xs ++ ys) ∧ W.grownBy w1 v.ownBlock ∧ (v1.ownBlock = v.ownBlock ∨ v1.ownBlock = some W.heap.size) := by
    rcases A with _ | ad
    · have h0 : ys = [] := by
        by_cases hy : ys = []
        · exact hy
        · obtain ⟨a', h'⟩ := HR.length_pos hy
          cases h'
      subst h0
      have hm0 : m = 0 := by
        rcases Nat.eq_zero_or_pos m with h0 | h0
        · exact h0
        · have := Nat.mul_pos h0 hs0
          simp at hm; omega
      subst hm0
      refine ⟨v, W, ?_, by simpa using HO, World.grownBy.refl W _, .inl rfl⟩
      rcases HO.2 with ⟨rfl, hn⟩ | ⟨g, cap, cur, rfl, _, _, hnc, _⟩
      · simp [Builtin.append_, run_underlying ht, sizeOf, typeInfo, hi, Builtin.lenOf, Builtin.firstCells, hn]
      · simp [Builtin.append_, run_underlying ht, sizeOf, typeInfo, hi, Builtin.lenOf, Builtin.firstCells, hnc, storeCells]
    · have hcells : ∀ j u, ys[j]? = some u → W.cell? (ad.add j) = some u := by
        intro j u hu
        obtain ⟨ad', h', hc⟩ := HR j u hu
        injection h' with h'
        subst h'
        exact hc
      obtain ⟨v1, w1, hr, h2, h3, _, h5⟩ := run_append_own_at (P := P) W base t o.type e i0 z size bytes ht hi hz0 hz1 hz2 hz hs0 v n xs HO ad m c ys hm hcells h1 (by simp only [maxLen]; omega) hl hbase
      exact ⟨v1, w1, hr, h2, h3, h5⟩
  obtain ⟨v1, w1, hr, hown, hg, hat⟩ := hrun
  rw [if_pos hgd]
  unfold Oper.wp execOp
  simp only [ho, resolve, invoke, builtin, Sem.run_bind, Sem.run_pure, Result.andThen_ok, List.map_toArray, List.map_cons, List.map_nil, hs, hx, hr]
  exact h v1 w1 hown hg hat
end Go.Proofs.YtljdfhckllncoaaK

namespace Go.Proofs.YtljdfhckllncoaaK
open Go.RowKit
set_option linter.unusedSimpArgs false
set_option linter.unusedVariables false
section
variable {P : Program}
def litB (b : UInt8) : Lit := .int .u8 (b.toNat : Int)
theorem litB_inj (a b : List UInt8) : a.map litB = b.map litB ↔ a = b := by
  constructor
  · intro h
    induction a generalizing b with
    | nil => cases b with
      | nil => rfl
      | cons => simp at h
    | cons x l ih => cases b with
      | nil => simp at h
      | cons y m =>
        simp only [List.map_cons, List.cons.injEq] at h
        have h1 : (x.toNat : Int) = (y.toNat : Int) := by
          have := h.1
          unfold litB at this
          injection this
        have h2 : x = y := UInt8.toNat_inj.1 (by omega)
        rw [h2, ih m h.2]
  · intro h; rw [h]
theorem wf_u8 (b : UInt8) : (Lit.int .u8 (b.toNat : Int)).wf = true := by
  have := b.toNat_lt
  simp [Lit.wf, IntKind.min, IntKind.max, IntKind.signed, IntKind.bits]
  omega
theorem keyLits_byte {e : TypeId} {D : Nat} (he : P.underlying e = some (.int .u8)) (b : UInt8) : P.keyLits (D + 1) e [encB b] = some [litB b] := by
  unfold Program.keyLits encB
  rw [he]
  simp [wf_u8, litB]
theorem mapM_get {α : Type} (f : Nat → Option α) (g : Nat → α) : ∀ (l : List Nat), (∀ i ∈ l, f i = some (g i)) → l.mapM f = some (l.map g)
  | [], _ => rfl
  | i :: l, h => by
    rw [List.mapM_cons, h i (by simp), mapM_get f g l (fun j hj => h j (by simp [hj]))]
    rfl
theorem keyLits_arr {t e : TypeId} {n D : Nat} (ht : P.underlying t = some (.array n e)) (he : P.underlying e = some (.int .u8)) (hc : P.cellsOf e = 1) (hn : P.cellsOf t = n) (bs : List UInt8) (hl : bs.length = n) :
    P.keyLits (D + 2) t (bs.map encB) = some (bs.map litB) := by
  unfold Program.keyLits
  rw [ht]
  have h0 : (bs.map encB).length = P.cellsOf t := by rw [List.length_map, hl, hn]
  have hm : ((List.range n).mapM fun i => P.keyLits (D + 1) e (((bs.map encB).drop (i * P.cellsOf e)).take (P.cellsOf e))) = some ((List.range n).map fun i => [litB (bs.getD i 0)]) := by
    apply mapM_get
    intro i hi
    have hi' : i < bs.length := by rw [hl]; exact List.mem_range.1 hi
    rw [hc, Nat.mul_one, List.drop_eq_getElem_cons (by rw [List.length_map]; exact hi')]
    rw [show List.take 1 (((bs.map encB)[i]'(by rw [List.length_map]; exact hi')) :: List.drop (i + 1) (bs.map encB)) = [encB bs[i]] from by simp]
    rw [keyLits_byte he, List.getD_eq_getElem?_getD, List.getElem?_eq_getElem hi']
    rfl
  have hf : ((List.range n).map fun i => [litB (bs.getD i 0)]).flatten = bs.map litB := by
    rw [← hl]
    apply List.ext_getElem?
    intro i
    have e1 : ((List.range bs.length).map fun i => [litB (bs.getD i 0)]).flatten = (List.range bs.length).map fun i => litB (bs.getD i 0) := by
      generalize List.range bs.length = l
      induction l with
      | nil => rfl
      | cons x l ih => rw [List.map_cons, List.flatten_cons, List.map_cons, ih]; rfl
    rw [e1, List.getElem?_map, List.getElem?_map]
    by_cases hi : i < bs.length
    · rw [List.getElem?_range hi, List.getElem?_eq_getElem hi]
      simp [List.getD_eq_getElem?_getD, List.getElem?_eq_getElem hi]
    · rw [List.getElem?_eq_none (by simp; omega), List.getElem?_eq_none (by omega)]
      rfl
  simp only []
  rw [if_pos h0, hm]
  exact congrArg some hf
theorem arr_eql {t e : TypeId} {n : Nat} (ht : P.underlying t = some (.array n e)) (he : P.underlying e = some (.int .u8)) (hc : P.cellsOf e = 1) (hn : P.cellsOf t = n) (hk : P.keyTypeAt 2 t = true) (xs bs : List UInt8) (ha : xs.length = n) (hb : bs.length = n) (w : World) :
    (Op.equalIn 10000 t (.agg (xs.map encB).toArray) (.agg (bs.map encB).toArray)).run P w = .ok (decide (xs = bs)) w := by
  have hf : ∀ cs : List UInt8, cs.length = n → (Value.agg (cs.map encB).toArray).formed P t = true := by
    intro cs hcs
    unfold Value.formed
    simp [ht, hn, hcs]
  obtain ⟨r, h1, h2⟩ := run_equalIn_deep (P := P) 9998 2 t hk w 2 2 _ _ _ _ (hf xs ha) (hf bs hb) (keyLits_arr (D := 0) ht he hc hn xs ha) (keyLits_arr (D := 0) ht he hc hn bs hb)
  rw [show (10000 : Nat) = 9998 + 2 from rfl, h1]
  congr 1
  rw [litB_inj] at h2
  by_cases h : xs = bs
  · rw [decide_eq_true h]; exact h2.2 h
  · rw [decide_eq_false h]
    cases r
    · rfl
    · exact absurd (h2.1 rfl) h
end
end Go.Proofs.YtljdfhckllncoaaK

namespace Go.Proofs.YtljdfhckllncoaaK
open Go.RowKit
set_option linter.unusedSimpArgs false
set_option linter.unusedVariables false
/-- A row of cells: it is there, reads as L, and may be written. -/
def Arr (w : World) (b : Nat) (L : List Value) : Prop := w.rangeAt b 0 L ∧ w.there b 0 L.length ∧ b < w.heap.size
theorem setCells_size (w : World) (b k : Nat) (vs : List Value) : w.heap.size ≤ (w.setCells b k vs).heap.size := by
  have h : ∀ (vs : List Value) (b k : Nat) (w : World), w.heap.size ≤ (w.setCells b k vs).heap.size := by
    intro vs
    induction vs with
    | nil => intro b k w; exact Nat.le_refl _
    | cons v r ih => intro b k w; rw [World.setCells]; exact Nat.le_trans (by simp) (ih b (k + 1) _)
  exact h vs b k w
theorem below_setCells {B b : Nat} {a : World} (hb : B ≤ b) : ∀ (vs : List Value) (o : Nat) {w : World}, Below B a w → Below B a (w.setCells b o vs)
  | [], _, _, h => h
  | v :: r, o, w, h => below_setCells hb r (o + 1) (h.setCell (p := ⟨b, o, none⟩) hb v)
section
variable {w w' : World} {b : Nat} {L L' : List Value}
theorem Arr.range (h : Arr w b L) : w.rangeAt b 0 L := h.1
theorem Arr.at_ (h : Arr w b L) (j : Nat) (v : Value) (hv : L[j]? = some v) : w.cell? ⟨b, j, none⟩ = some v := by have := h.1 j v hv; rwa [Nat.zero_add] at this
theorem Arr.below (h : Arr w b L) (hb : Below w.heap.size w w') : Arr w' b L := by
  refine ⟨fun j v hv => ?_, fun j hj => ?_, Nat.lt_of_lt_of_le h.2.2 hb.size⟩
  · have := h.1 j v hv
    rw [← this]; exact hb.cell (p := ⟨b, 0 + j, none⟩) h.2.2
  · have h1 := h.2.1 j hj
    have h2 := hb.block b h.2.2
    unfold World.cell? World.frozen? at h1 ⊢
    simp only [h2]
    exact h1
theorem Arr.alloc (h : Arr w b L) (o : Obj) : Arr (w.alloc o) b L := h.below ((Below.refl _ _).alloc (Nat.le_refl _) _)
theorem Arr.drew (h : Arr w b L) : Arr w.drew b L := h.below (Below.refl _ _).drew
theorem Arr.set_other (h : Arr w b L) {b' : Nat} (hne : b ≠ b') (o : Nat) (vs : List Value) : Arr (w.setCells b' o vs) b L :=
  ⟨World.rangeAt_setCells_apart h.1 _ _ _ (.inl hne), World.there_setCells h.2.1 _ _ _, Nat.lt_of_lt_of_le h.2.2 (setCells_size _ _ _ _)⟩
theorem Arr.set_same (h : Arr w b L) (hl : L'.length = L.length) : Arr (w.setCells b 0 L') b L' :=
  ⟨World.rangeAt_setCells_same _ _ _ _ (hl ▸ h.2.1), World.there_setCells (hl ▸ h.2.1) _ _ _, Nat.lt_of_lt_of_le h.2.2 (setCells_size _ _ _ _)⟩
theorem Arr.setA_same (h : Arr w b L) {A : Array Value} (hl : A.size = L.length) : Arr (w.setCells b 0 A.toList) b A.toList := h.set_same (by simpa using hl)
theorem Arr.thereA (h : Arr w b L) {A : Array Value} (hl : A.size = L.length) : w.there b 0 A.size := hl ▸ h.2.1
theorem arr_row {cs : Array Value} {T : TypeId} (h : w.heap[b]? = some (.cells cs T (0, 0))) : Arr w b cs.toList := by
  have hlt : b < w.heap.size := (Array.getElem?_eq_some_iff.1 h).1
  refine ⟨fun j v hv => ?_, fun j hj => ?_, hlt⟩
  · rw [Nat.zero_add, cell_of_row _ _ j _ _ _ h]; simpa using hv
  · constructor
    · rw [Nat.zero_add, cell_of_row _ _ j _ _ _ h, Array.getElem?_eq_getElem (by simpa using hj)]; rfl
    · simp [World.frozen?, h]
theorem arr_new (w : World) (cs : Array Value) (T : TypeId) : Arr (w.alloc (.cells cs T)) w.heap.size cs.toList := arr_row (heap_alloc_new w _)
theorem arr_newL (w : World) (cs : List Value) (T : TypeId) : Arr (w.alloc (.cells cs.toArray T)) w.heap.size cs := by have := arr_new w cs.toArray T; simpa using this
theorem Arr.grown (h : Arr w b L) {row : Option Nat} (hg : w.grownBy w' row) (hne : some b ≠ row) : Arr w' b L := by
  have h2 := hg.block b h.2.2 hne
  refine ⟨fun j v hv => ?_, fun j hj => ?_, Nat.lt_of_lt_of_le h.2.2 hg.size⟩
  · have := h.1 j v hv
    rw [← this]; unfold World.cell?; simp only [h2]
  · have h1 := h.2.1 j hj
    unfold World.cell? World.frozen? at h1 ⊢
    simp only [h2]
    exact h1
theorem Arr.set_cell (h : Arr w b L) (j : Nat) (v : Value) : Arr (w.setCell ⟨b, j, none⟩ v) b (L.set j v) := by
  refine ⟨fun i u hu => ?_, fun i hi => ?_, Nat.lt_of_lt_of_le h.2.2 (by simp)⟩
  · by_cases e : i = j
    · subst e
      have hil : i < L.length := by
        have := (List.getElem?_eq_some_iff.1 hu).1
        simpa using this
      rw [List.getElem?_set_self hil] at hu
      have hc := h.2.1 i hil
      rw [Nat.zero_add] at hc ⊢
      injection hu with hu
      subst hu
      obtain ⟨u0, hu0⟩ := Option.isSome_iff_exists.1 hc.1
      exact World.cell?_setCell_same _ _ _ hu0
    · rw [List.getElem?_set_ne (Ne.symm e)] at hu
      have := h.1 i u hu
      rw [World.cell?_setCell_other _ _ _ _ (by intro hh; injection hh; omega)]
      exact this
  · have h1 := h.2.1 i (by simpa using hi)
    refine ⟨?_, ?_⟩
    · by_cases e : i = j
      · subst e
        rw [Nat.zero_add] at h1 ⊢
        obtain ⟨u0, hu0⟩ := Option.isSome_iff_exists.1 h1.1
        rw [World.cell?_setCell_same _ _ _ hu0]; rfl
      · rw [World.cell?_setCell_other _ _ _ _ (by intro hh; injection hh; omega)]
        exact h1.1
    · rw [World.frozen?_setCell]; exact h1.2
theorem Arr.set_one (h : Arr w b L) {b' : Nat} (hne : b' ≠ b) (j : Nat) (v : Value) : Arr (w.setCell ⟨b', j, none⟩ v) b L := by
  refine ⟨fun i u hu => ?_, fun i hi => ?_, Nat.lt_of_lt_of_le h.2.2 (by simp)⟩
  · rw [World.cell?_setCell_other _ _ _ _ (by intro hh; injection hh; omega)]; exact h.1 i u hu
  · rw [World.cell?_setCell_other _ _ _ _ (by intro hh; injection hh; omega), World.frozen?_setCell]; exact h.2.1 i hi
/-- A load of a row under a guard that lets it. -/
theorem wpList_load_g {P : Program} {ops : Array Oper} {rest : List Oper} {op : Oper} {a : Act} {Q : Exit → Act → World → Prop} (hgd : Region.wanted op (yielded ops a.tmps) = true) (ty : TypeId) (x : Operand) (ho : op.op = .load ty x)
    (b o : Nat) (hx : a.eval x = .pointer (some ⟨b, o, none⟩)) (cs : List Value) (d : TypeDesc) (hc : w.rangeAt b o cs)
    (hu : P.underlying ty = some d) (hd : d.isRow = true) (hi : (P.info? ty).map (·.size) = some cs.length)
    (h : wpList P ops Q rest (a.put op.dst (.agg cs.toArray)) w) : wpList P ops Q (op :: rest) a w := by
  refine wpList_step fun K hK => ?_
  rw [if_pos hgd]
  exact wp_load_mid ty x ho b o hx cs d hc hu hd hi (hK _ _ h)
theorem bodyPost_row {P : Program} {fn : Func} {R : Ending → World → Prop} {a : Act} {p : Tmp} {ty : TypeId} {d : TypeDesc} (h : fn.results = #[.cell p ty]) (hd0 : a.defers = []) (hp : a.tmps.getD p undef = .pointer (some ⟨b, 0, none⟩)) (hA : Arr w b L)
    (hu : P.underlying ty = some d) (hd : d.isRow = true) (hi : (P.info? ty).map (·.size) = some L.length) (hR : R (.returned (.agg L.toArray)) w) : bodyPost P fn R .ret a w := by
  refine bodyPost_ret (v := .agg L.toArray) ?_ hd0 hR
  have hl := run_loadVar_mid (P := P) w b 0 ty L d hA.1 hu hd hi
  simp only [results, h]
  have hp' : a.tmps[p]?.getD undef = .pointer (some ⟨b, 0, none⟩) := by rw [← Array.getD_eq_getD_getElem?]; exact hp
  simp [Sem.run_bind, Result.andThen, hp', asAddr, hl]
theorem bodyPost_row2 {P : Program} {fn : Func} {R : Ending → World → Prop} {a : Act} {p u : Tmp} {ty : TypeId} {d : TypeDesc} {x : Value} (h : fn.results = #[.cell p ty, .tmp u]) (hd0 : a.defers = []) (hp : a.tmps.getD p undef = .pointer (some ⟨b, 0, none⟩)) (hx : a.tmps.getD u undef = x) (hA : Arr w b L)
    (hu : P.underlying ty = some d) (hd : d.isRow = true) (hi : (P.info? ty).map (·.size) = some L.length) (hR : R (.returned (.tuple #[.agg L.toArray, x])) w) : bodyPost P fn R .ret a w := by
  refine bodyPost_ret (v := .tuple #[.agg L.toArray, x]) ?_ hd0 hR
  have hl := run_loadVar_mid (P := P) w b 0 ty L d hA.1 hu hd hi
  rw [results_cell_tmp h]
  simp [hp, hx, asAddr, hl, Result.andThen]
  first
    | done
    | (simp only [← Array.getD_eq_getD_getElem?, hp, hx]; simp [hl])
end
end Go.Proofs.YtljdfhckllncoaaK

namespace Go.Proofs.YtljdfhckllncoaaK
open Go.RowKit
set_option linter.unusedSimpArgs false
set_option linter.unusedVariables false
/-- Rows of cells that are apart, made since w0. -/
structure Rows (w0 : World) (rs : List (Nat × List Value)) (w : World) : Prop where
  rows : ∀ p ∈ rs, Arr w p.1 p.2
  apart : rs.Pairwise (fun p q => p.1 ≠ q.1)
  since : ∀ p ∈ rs, w0.heap.size ≤ p.1
  below : Below w0.heap.size w0 w
section
variable {w0 w w' : World} {rs : List (Nat × List Value)} {b : Nat} {L L' : List Value}
theorem Rows.get (h : Rows w0 rs w) (hm : (b, L) ∈ rs) : Arr w b L := h.rows _ hm
theorem Rows.nil (w : World) : Rows w [] w := ⟨fun p hp => by simp at hp, List.Pairwise.nil, fun p hp => by simp at hp, Below.refl _ _⟩
theorem Rows.go (h : Rows w0 rs w) (hb : Below w.heap.size w w') : Rows w0 rs w' :=
  ⟨fun p hp => (h.rows p hp).below hb, h.apart, h.since, h.below.trans (hb.mono h.below.size)⟩
theorem Rows.drew (h : Rows w0 rs w) : Rows w0 rs w.drew := h.go (Below.refl _ _).drew
theorem Rows.alloc (h : Rows w0 rs w) (o : Obj) : Rows w0 rs (w.alloc o) := h.go ((Below.refl _ _).alloc (Nat.le_refl _) _)
theorem Rows.new (h : Rows w0 rs w) (cs : Array Value) (T : TypeId) : Rows w0 ((w.heap.size, cs.toList) :: rs) (w.alloc (.cells cs T)) := by
  have h2 := h.alloc (.cells cs T)
  refine ⟨fun p hp => ?_, List.pairwise_cons.2 ⟨fun q hq e => ?_, h.apart⟩, fun p hp => ?_, h2.below⟩
  · rcases List.mem_cons.1 hp with rfl | hp
    · exact arr_new w cs T
    · exact h2.rows p hp
  · have := (h.rows q hq).2.2
    simp only at e; omega
  · rcases List.mem_cons.1 hp with rfl | hp
    · exact h.below.size
    · exact h.since p hp
theorem Rows.newL (h : Rows w0 rs w) (cs : List Value) (T : TypeId) : Rows w0 ((w.heap.size, cs) :: rs) (w.alloc (.cells cs.toArray T)) := by have := h.new cs.toArray T; simpa using this
theorem Rows.swap {p q : Nat × List Value} (h : Rows w0 (p :: q :: rs) w) : Rows w0 (q :: p :: rs) w := by
  have ha := h.apart
  rw [List.pairwise_cons, List.pairwise_cons] at ha
  obtain ⟨h1, h2, h3⟩ := ha
  refine ⟨fun r hr => h.rows r ?_, List.pairwise_cons.2 ⟨fun r hr e => ?_, List.pairwise_cons.2 ⟨fun r hr => h1 r (by simp [hr]), h3⟩⟩, fun r hr => h.since r ?_, h.below⟩
  · simp only [List.mem_cons] at hr ⊢; rcases hr with rfl | rfl | hr <;> simp [*]
  · rcases List.mem_cons.1 hr with rfl | hr
    · exact h1 q (by simp) e.symm
    · exact h2 r hr e
  · simp only [List.mem_cons] at hr ⊢; rcases hr with rfl | rfl | hr <;> simp [*]
theorem rows_perm {ss : List (Nat × List Value)} (h : Rows w0 rs w) (hp : rs.Perm ss) : Rows w0 ss w :=
  ⟨fun p hp' => h.rows p (hp.mem_iff.2 hp'), (hp.pairwise_iff (fun h e => h e.symm)).1 h.apart, fun p hp' => h.since p (hp.mem_iff.2 hp'), h.below⟩
/-- A row is written whole. -/
theorem Rows.store (h : Rows w0 ((b, L) :: rs) w) (hl : L'.length = L.length) : Rows w0 ((b, L') :: rs) (w.setCells b 0 L') := by
  have ha := h.apart
  rw [List.pairwise_cons] at ha
  refine ⟨fun p hp => ?_, List.pairwise_cons.2 ⟨ha.1, ha.2⟩, fun p hp => ?_, below_setCells (h.since (b, L) (by simp)) _ _ h.below⟩
  · rcases List.mem_cons.1 hp with rfl | hp
    · exact (h.rows (b, L) (by simp)).set_same hl
    · exact (h.rows p (by simp [hp])).set_other (fun e => ha.1 p hp e.symm) 0 L'
  · rcases List.mem_cons.1 hp with rfl | hp
    · exact h.since (b, L) (by simp)
    · exact h.since p (by simp [hp])
theorem Rows.storeA (h : Rows w0 ((b, L) :: rs) w) {A : Array Value} (hl : A.size = L.length) : Rows w0 ((b, A.toList) :: rs) (w.setCells b 0 A.toList) := h.store (by simpa using hl)
theorem Rows.cell (h : Rows w0 ((b, L) :: rs) w) (j : Nat) (v : Value) : Rows w0 ((b, L.set j v) :: rs) (w.setCell ⟨b, j, none⟩ v) := by
  have ha := h.apart
  rw [List.pairwise_cons] at ha
  refine ⟨fun p hp => ?_, List.pairwise_cons.2 ⟨ha.1, ha.2⟩, fun p hp => ?_, h.below.setCell (p := ⟨b, j, none⟩) (h.since (b, L) (by simp)) v⟩
  · rcases List.mem_cons.1 hp with rfl | hp
    · exact (h.rows (b, L) (by simp)).set_cell j v
    · exact (h.rows p (by simp [hp])).set_one (fun e => ha.1 p hp e) j v
  · rcases List.mem_cons.1 hp with rfl | hp
    · exact h.since (b, L) (by simp)
    · exact h.since p (by simp [hp])
theorem Rows.grown (h : Rows w0 rs w) {g : Nat} (hg : w.grownBy w' (some g)) (hne : ∀ p ∈ rs, p.1 ≠ g) (hge : w0.heap.size ≤ g) : Rows w0 rs w' :=
  ⟨fun p hp => (h.rows p hp).grown hg (by intro e; injection e with e; exact hne p hp e), h.apart, h.since, h.below.grown hg h.below.size (fun k hk => by injection hk with hk; omega)⟩
theorem Rows.drop {p : Nat × List Value} (h : Rows w0 (p :: rs) w) : Rows w0 rs w :=
  ⟨fun q hq => h.rows q (by simp [hq]), (List.pairwise_cons.1 h.apart).2, fun q hq => h.since q (by simp [hq]), h.below⟩
end
end Go.Proofs.YtljdfhckllncoaaK

namespace Go.Proofs.YtljdfhckllncoaaK
open Go.RowKit
set_option linter.unusedSimpArgs false
set_option linter.unusedVariables false
/-- A row with a piece of it written over. -/
def spl {α : Type} (L : List α) (o : Nat) (vs : List α) : List α := L.take o ++ (vs ++ L.drop (o + vs.length))
theorem spl_length {α : Type} {L : List α} {o : Nat} {vs : List α} (h : o + vs.length ≤ L.length) : (spl L o vs).length = L.length := by
  unfold spl; simp; omega
theorem spl_get {α : Type} {L : List α} {o : Nat} {vs : List α} (h : o + vs.length ≤ L.length) (j : Nat) : (spl L o vs)[j]? = if o ≤ j ∧ j < o + vs.length then vs[j - o]? else L[j]? := by
  unfold spl
  by_cases h1 : j < o
  · rw [List.getElem?_append_left (by simp; omega), List.getElem?_take_of_lt h1, if_neg (by omega)]
  · rw [List.getElem?_append_right (by simp; omega)]
    rw [show j - (L.take o).length = j - o from by simp; omega]
    by_cases h2 : j < o + vs.length
    · rw [List.getElem?_append_left (by omega), if_pos (by omega)]
    · rw [List.getElem?_append_right (by omega), List.getElem?_drop, if_neg (by omega)]
      congr 1
      omega
theorem spl_map {α β : Type} (f : α → β) (L : List α) (o : Nat) (vs : List α) : (spl L o vs).map f = spl (L.map f) o (vs.map f) := by
  unfold spl; simp
theorem spl_nil {α : Type} (L : List α) (o : Nat) : spl L o [] = L := by unfold spl; simp
section
variable {P : Program} {w0 w w' : World} {rs : List (Nat × List Value)} {b : Nat} {L L' vs : List Value}
theorem Arr.splice (h : Arr w b L) (o : Nat) (hf : o + vs.length ≤ L.length) : Arr (w.setCells b o vs) b (spl L o vs) := by
  refine ⟨fun j v hv => ?_, fun j hj => ?_, Nat.lt_of_lt_of_le h.2.2 (setCells_size _ _ _ _)⟩
  · rw [spl_get hf] at hv
    rw [Nat.zero_add]
    by_cases h1 : o ≤ j ∧ j < o + vs.length
    · rw [if_pos h1] at hv
      have hin := World.cell?_setCells_in b vs o w (fun i hi => by have := (h.2.1 (o + i) (by omega)).1; rwa [Nat.zero_add] at this) (j - o) (by omega)
      rw [show o + (j - o) = j from by omega] at hin
      rw [hin]
      rw [List.getElem?_eq_getElem (by omega)] at hv
      exact hv
    · rw [if_neg h1] at hv
      have := h.1 j v hv
      rw [Nat.zero_add] at this
      rw [World.cell?_setCells_out b vs o w ⟨b, j, none⟩ (fun _ _ => by simp only; omega)]
      exact this
  · rw [spl_length hf] at hj
    exact World.there_setCells h.2.1 _ _ _ j hj
theorem Arr.bs {bs : List UInt8} (h : Arr w b (bs.map encB)) (o n c : Nat) (hn : o + n ≤ bs.length) (hc : n ≤ c) (hm : n ≤ 9223372036854775807) : Bs w (.slice (some ⟨b, o, none⟩) n c) ((bs.drop o).take n) := by
  have hl : ((bs.drop o).take n).length = n := by simp; omega
  refine ⟨some ⟨b, o, none⟩, c, by rw [hl], by omega, by omega, fun j u hu => ⟨_, rfl, ?_⟩⟩
  rw [Addr.add_mid]
  have hj : j < n := by
    have := (List.getElem?_eq_some_iff.1 hu).1
    rw [List.length_map, hl] at this
    exact this
  refine h.at_ (o + j) u ?_
  rw [List.getElem?_map] at hu ⊢
  rw [List.getElem?_take_of_lt hj, List.getElem?_drop] at hu
  exact hu
theorem Rows.splice (h : Rows w0 ((b, L) :: rs) w) (o : Nat) (hf : o + vs.length ≤ L.length) : Rows w0 ((b, spl L o vs) :: rs) (w.setCells b o vs) := by
  have ha := h.apart
  rw [List.pairwise_cons] at ha
  refine ⟨fun p hp => ?_, List.pairwise_cons.2 ⟨ha.1, ha.2⟩, fun p hp => ?_, below_setCells (h.since (b, L) (by simp)) _ _ h.below⟩
  · rcases List.mem_cons.1 hp with rfl | hp
    · exact (h.rows (b, L) (by simp)).splice o hf
    · exact (h.rows p (by simp [hp])).set_other (fun e => ha.1 p hp e.symm) o vs
  · rcases List.mem_cons.1 hp with rfl | hp
    · exact h.since (b, L) (by simp)
    · exact h.since p (by simp [hp])
/-- copy into a row: as many cells as there are, and as fit. -/
theorem run_copy_arr (dT sT ty elem : TypeId) (g off dLen dCap : Nat) (sp : Option Addr) (sLen sCap : Nat) (src : List Value) (hu : P.underlying dT = some (.slice elem)) (hs : (P.info? elem).map (·.size) = some 1)
    (hsl : src.length = sLen) (hAt : At w sp src) (hA : Arr w g L) (hfit : off + Nat.min sLen dLen ≤ L.length) (h1 : ∀ v ∈ src, v.oneCell' = true) :
    (Builtin.copy_ #[dT, sT] ty #[.slice (some ⟨g, off, none⟩) dLen dCap, .slice sp sLen sCap]).run P w = .ok (goInt (Nat.min sLen dLen)) (w.setCells g off (src.take (Nat.min sLen dLen))) := by
  by_cases h0 : Nat.min sLen dLen = 0
  · rw [run_copy_none (P := P) w dT sT ty elem _ _ _ _ _ _ hu hs h0, h0]; rfl
  · have hpos : 0 < src.length := by
      have := Nat.min_le_left sLen dLen
      have h2 : Nat.min sLen dLen = min sLen dLen := rfl
      omega
    obtain ⟨ad, rfl, _⟩ := hAt 0 _ (List.getElem?_eq_getElem hpos)
    have hle : Nat.min sLen dLen ≤ src.length := by rw [hsl]; exact Nat.min_le_left _ _
    have hcl : (src.take (Nat.min sLen dLen)).length = Nat.min sLen dLen := by rw [List.length_take]; exact Nat.min_eq_left hle
    have hr := run_copy_cells (P := P) w dT sT ty elem g off dLen dCap ad sLen sCap (src.take (Nat.min sLen dLen)) hu hs hcl
      (fun j v hv => by
        have hj : j < Nat.min sLen dLen := by
          have := (List.getElem?_eq_some_iff.1 hv).1
          rwa [hcl] at this
        rw [List.getElem?_take_of_lt hj] at hv
        obtain ⟨ad', h', hc⟩ := hAt j v hv
        injection h' with h'
        subst h'
        exact hc)
      (fun j hj => by rw [hcl] at hj; have := (hA.2.1 (off + j) (by omega)).1; rwa [Nat.zero_add] at this)
      (fun j hj => by rw [hcl] at hj; have := (hA.2.1 (off + j) (by omega)).2; rwa [Nat.zero_add] at this)
      (fun v hv => h1 v (List.mem_of_mem_take hv))
    rw [hcl] at hr
    exact hr
theorem wp_copy {ops : Array Oper} {o : Oper} {a : Act} {K : Act → World → Prop} {Q : Exit → Act → World → Prop} (d s : Operand) (dT sT : TypeId)
    (ho : o.op = .call { callee := .builtin .copy, args := #[d, s], argTypes := #[dT, sT] }) (elem : TypeId) (hu : P.underlying dT = some (.slice elem)) (hs : (P.info? elem).map (·.size) = some 1)
    (g off dLen dCap : Nat) (sp : Option Addr) (sLen sCap : Nat) (src : List Value) (hd : a.eval d = .slice (some ⟨g, off, none⟩) dLen dCap) (hsv : a.eval s = .slice sp sLen sCap)
    (hsl : src.length = sLen) (hAt : At w sp src) (hA : Arr w g L) (hfit : off + Nat.min sLen dLen ≤ L.length) (h1 : ∀ v ∈ src, v.oneCell' = true)
    (h : K (a.put o.dst (goInt (Nat.min sLen dLen))) (w.setCells g off (src.take (Nat.min sLen dLen)))) : o.wp P a w K Q := by
  have hr := run_copy_arr (P := P) dT sT o.type elem g off dLen dCap sp sLen sCap src hu hs hsl hAt hA hfit h1
  unfold Oper.wp execOp
  simp only [ho, resolve, invoke, builtin, Sem.run_bind, Sem.run_pure, Result.andThen_ok, List.map_toArray, List.map_cons, List.map_nil, hd, hsv, hr]
  exact h
theorem wpList_copy {ops : Array Oper} {rest : List Oper} {o : Oper} {a : Act} {Q : Exit → Act → World → Prop} (hgd : o.guard = none) (d s : Operand) (dT sT : TypeId)
    (ho : o.op = .call { callee := .builtin .copy, args := #[d, s], argTypes := #[dT, sT] }) (elem : TypeId) (hu : P.underlying dT = some (.slice elem)) (hs : (P.info? elem).map (·.size) = some 1)
    (g off dLen dCap : Nat) (sp : Option Addr) (sLen sCap : Nat) (src : List Value) (hd : a.eval d = .slice (some ⟨g, off, none⟩) dLen dCap) (hsv : a.eval s = .slice sp sLen sCap)
    (hsl : src.length = sLen) (hAt : At w sp src) (hA : Arr w g L) (hfit : off + Nat.min sLen dLen ≤ L.length) (h1 : ∀ v ∈ src, v.oneCell' = true)
    (h : wpList P ops Q rest (a.put o.dst (goInt (Nat.min sLen dLen))) (w.setCells g off (src.take (Nat.min sLen dLen)))) : wpList P ops Q (o :: rest) a w :=
  wpList_plain hgd fun _ hK => wp_copy (ops := ops) d s dT sT ho elem hu hs g off dLen dCap sp sLen sCap src hd hsv hsl hAt hA hfit h1 (hK _ _ h)
end
end Go.Proofs.YtljdfhckllncoaaK

namespace Go.Proofs.YtljdfhckllncoaaK
open Go.RowKit
set_option linter.unusedSimpArgs false
set_option linter.unusedVariables false
/-! A region that draws its order, walked by what each operation leaves (no orders counted). -/
def evS (s : Nat → Value) : Operand → Value
  | .tmp t => s t
  | .const v => v
  | .global g => .pointer (some ⟨g, 0, none⟩)
  | .func f => .func (.func f) #[] #[]
theorem eval_evS (a : Act) : a.eval = evS (fun k => a.tmps.getD k undef) := by
  funext x; cases x <;> rfl
/-- What one operation does, by the slots' values alone. -/
def StepS (P : Program) (o : Oper) (s : Nat → Value) (w : World) (K : Value → World → Prop) : Prop :=
  match (execOp (evS s) o).run P w with
  | .ok (.value v) w' => K v w'
  | .ok .skip w' => K undef w'
  | .ok (.enter f args) w' => Calls P f args w' fun e w'' => ∃ u, e = .returned u ∧ K u w''
  | _ => False
section
variable {P : Program} {ops : Array Oper} {Q : Exit → Act → World → Prop}
theorem StepS.wp {o : Oper} {a : Act} {w : World} {K : Value → World → Prop} {N : Act → World → Prop} (h : StepS P o (fun k => a.tmps.getD k undef) w K)
    (hK : ∀ v w', K v w' → N (a.put o.dst v) w') : Oper.wp P o a w N Q := by
  unfold Oper.wp
  rw [eval_evS]
  unfold StepS at h
  generalize (execOp (evS fun k => a.tmps.getD k undef) o).run P w = r at *
  cases r with
  | ok n w' =>
    cases n <;> simp only [Oper.upon] at h ⊢
    case value v => exact hK _ _ h
    case skip => exact hK _ _ h
    case enter f args => exact Calls.mono h (fun e w'' ⟨u, he, hk⟩ => by subst he; exact hK _ _ hk)
    all_goals exact h.elim
  | halt x w' => exact h.elim
theorem StepS.mono {o : Oper} {s : Nat → Value} {w : World} {K K' : Value → World → Prop} (h : StepS P o s w K) (hK : ∀ v w', K v w' → K' v w') : StepS P o s w K' := by
  unfold StepS at *
  generalize (execOp (evS s) o).run P w = r at *
  cases r with
  | ok n w' =>
    cases n <;> simp only at h ⊢
    case value v => exact hK _ _ h
    case skip => exact hK _ _ h
    case enter f args => exact Calls.mono h (fun e w'' ⟨u, he, hk⟩ => ⟨u, he, hK _ _ hk⟩)
    all_goals exact h.elim
  | halt x w' => exact h.elim
/-- The same under a guard: struck, or not. -/
def StepG (P : Program) (ops : Array Oper) (i : Nat) (dst : Nat → Nat) (s : Nat → Value) (w : World) (K : Value → World → Prop) : Prop :=
  match (ops.getD i default).guard with
  | none => StepS P (ops.getD i default) s w K
  | some (g, b) => (s (dst g) = .bool b ∧ StepS P (ops.getD i default) s w K) ∨ ((s (dst g) = .bool (!b) ∨ s (dst g) = undef) ∧ K undef w)
/-- Which operations are bound to come ahead of number i. -/
def depsOf (ops : Array Oper) (i : Nat) : List Nat := ((ops[i]?).map fun o => (o.after.toList.filter (Region.binds .any)).map (·.on)).getD []
def dstOf (ops : Array Oper) (i : Nat) : Nat := ((ops[i]?).bind (·.dst)).getD 0
def dsts (ops : Array Oper) (m : Nat) : List Nat := (List.range m).map (dstOf ops)
def pathB (ops : Array Oper) : Nat → Nat → Nat → Bool
  | 0, _, _ => false
  | n + 1, j, i => (depsOf ops j).any fun d => d == i || pathB ops n d i
def frontOK (ops : Array Oper) (m n : Nat) : Bool :=
  decide (m ≤ ops.size) && ((List.range m).all fun i => (match ops[i]? with | some o => (match o.guard with | none => true | some (g, _) => decide (g < m)) && (match o.dst with | some d => decide (d < n) | none => false) && (depsOf ops i).all (fun d => decide (d < i)) | none => false)) &&
    ((List.range m).all fun i => (List.range m).all fun j => i == j || dstOf ops i != dstOf ops j) &&
    ((List.range (ops.size - m)).all fun j => (List.range m).all fun i => pathB ops 8 (m + j) i)
def frontL (ops : Array Oper) (m : Nat) : Array Bool := ((List.range ops.size).map fun i => decide (i < m)).toArray
def setAll (base : Array Value) (s : Nat → Value) (ds : List Nat) : Array Value := ds.foldl (fun b d => b.setIfInBounds d (s d)) base
theorem setAll_size (s : Nat → Value) : ∀ (ds : List Nat) (base : Array Value), (setAll base s ds).size = base.size := by
  intro ds
  induction ds with
  | nil => intro base; rfl
  | cons d ds ih =>
    intro base
    show (setAll (base.setIfInBounds d (s d)) s ds).size = base.size
    rw [ih]; simp
theorem setAll_get (s : Nat → Value) (k : Nat) : ∀ (ds : List Nat) (base : Array Value), k < base.size → (setAll base s ds)[k]? = some (if k ∈ ds then s k else base.getD k undef) := by
  intro ds
  induction ds with
  | nil => intro base hk; simp [setAll, Array.getD, hk]
  | cons d ds ih =>
    intro base hk
    show (setAll (base.setIfInBounds d (s d)) s ds)[k]? = _
    rw [ih _ (by simpa using hk)]
    by_cases h1 : k ∈ ds
    · simp [h1]
    · by_cases h2 : k = d
      · subst h2
        simp [h1, Array.getD, hk]
      · rw [if_neg h1, if_neg (by simp [h1, h2])]
        congr 1
        simp only [Array.getD_eq_getD_getElem?]
        rw [Array.getElem?_setIfInBounds_ne (Ne.symm h2)]
theorem mem_ready {listed : Array Bool} {i : Nat} (h : i ∈ Region.ready .any ops listed) : i < ops.size ∧ listed.getD i true = false ∧ ∀ d ∈ depsOf ops i, listed.getD d false = true := by
  unfold Region.ready at h
  rw [List.mem_filter] at h
  obtain ⟨h1, h2⟩ := h
  have hi := List.mem_range.1 h1
  rw [Bool.and_eq_true] at h2
  refine ⟨hi, by simpa using h2.1, fun d hd => ?_⟩
  have h3 := h2.2
  rw [Array.getElem?_eq_getElem hi] at h3
  unfold depsOf at hd
  rw [Array.getElem?_eq_getElem hi] at hd
  simp only [Option.map_some, Option.getD_some, List.mem_map, List.mem_filter] at hd
  obtain ⟨e, ⟨he, hb⟩, rfl⟩ := hd
  simp only [Option.map_some, Option.getD_some, Array.all_eq_true_iff_forall_mem] at h3
  have := h3 e (by simpa using he)
  simpa [hb] using this
theorem ready_of {listed : Array Bool} {i : Nat} (hi : i < ops.size) (h2 : listed.getD i true = false) (h3 : ∀ d ∈ depsOf ops i, listed.getD d false = true) : i ∈ Region.ready .any ops listed := by
  unfold Region.ready
  rw [List.mem_filter]
  refine ⟨List.mem_range.2 hi, ?_⟩
  rw [Bool.and_eq_true]
  refine ⟨by simpa using h2, ?_⟩
  rw [Array.getElem?_eq_getElem hi]
  simp only [Option.map_some, Option.getD_some, Array.all_eq_true_iff_forall_mem]
  intro e he
  by_cases hb : Region.binds .any e = true
  · have := h3 e.on (by
      unfold depsOf
      rw [Array.getElem?_eq_getElem hi]
      simp only [Option.map_some, Option.getD_some, List.mem_map, List.mem_filter]
      exact ⟨e, ⟨by simpa using he, hb⟩, rfl⟩)
    simp [hb, this]
  · simp [hb]
theorem path_listed {listed : Array Bool} (hc : ∀ i, listed.getD i false = true → ∀ d ∈ depsOf ops i, listed.getD d false = true) :
    ∀ (n j i : Nat), pathB ops n j i = true → (∀ d ∈ depsOf ops j, listed.getD d false = true) → listed.getD i false = true := by
  intro n
  induction n with
  | zero => intro j i h; cases h
  | succ n ih =>
    intro j i h hd
    unfold pathB at h
    rw [List.any_eq_true] at h
    obtain ⟨d, hdm, h⟩ := h
    rw [Bool.or_eq_true] at h
    rcases h with h | h
    · have : d = i := by simpa using h
      subst this; exact hd d hdm
    · exact ih d i h (hc d (hd d hdm))
/-- What holds on the way: which operations have come up, and what each has left. -/
structure InvS (ops : Array Oper) (m : Nat) (base : Array Value) (ds : List Deferred) (B : World → Prop) (Φ : Nat → Value → World → Prop) (Ψ : Nat → Nat → Value → Value → Prop) (l : Array Bool) (a : Act) (w : World) : Prop where
  size : l.size = ops.size
  closed : ∀ i, l.getD i false = true → ∀ d ∈ depsOf ops i, l.getD d false = true
  back : ∀ j, m ≤ j → l.getD j false = false
  defs : a.defers = ds
  tsize : a.tmps.size = base.size
  rest : ∀ k, k ∉ dsts ops m → a.tmps.getD k undef = base.getD k undef
  base : B w
  facts : ∀ i, i < m → l.getD i false = true → Φ i (a.tmps.getD (dstOf ops i) undef) w
  pairs : ∀ i j, i < m → j < m → i ≠ j → l.getD i false = true → l.getD j false = true → Ψ i j (a.tmps.getD (dstOf ops i) undef) (a.tmps.getD (dstOf ops j) undef)
def cntL (l : Array Bool) : Nat → Nat
  | 0 => 0
  | m + 1 => cntL l m + if l.getD m false = true then 0 else 1
theorem cntL_zero (l : Array Bool) : ∀ m, cntL l m = 0 → ∀ i, i < m → l.getD i false = true := by
  intro m
  induction m with
  | zero => intro _ i hi; omega
  | succ m ih =>
    intro h i hi
    unfold cntL at h
    by_cases hm : l.getD m false = true
    · by_cases e : i = m
      · subst e; exact hm
      · exact ih (by omega) i (by omega)
    · rw [if_neg hm] at h; omega
theorem cntL_some (l : Array Bool) : ∀ m n, cntL l m = n + 1 → ∃ i, i < m ∧ l.getD i false = false ∧ ∀ j, j < i → l.getD j false = true := by
  intro m
  induction m with
  | zero => intro n h; cases h
  | succ m ih =>
    intro n h
    cases hc : cntL l m with
    | zero =>
      refine ⟨m, by omega, ?_, cntL_zero l m hc⟩
      unfold cntL at h
      rw [hc] at h
      by_cases hm : l.getD m false = true
      · rw [if_pos hm] at h; omega
      · simpa using hm
    | succ k =>
      obtain ⟨i, h1, h2, h3⟩ := ih k hc
      exact ⟨i, by omega, h2, h3⟩
theorem getD_set (l : Array Bool) (i j : Nat) (hi : i < l.size) : (l.setIfInBounds i true).getD j false = if j = i then true else l.getD j false := by
  simp only [Array.getD_eq_getD_getElem?]
  by_cases e : j = i
  · subst e; simp [hi]
  · rw [Array.getElem?_setIfInBounds_ne (Ne.symm e), if_neg e]
theorem cntL_out (l : Array Bool) (i : Nat) (hi : i < l.size) : ∀ m, m ≤ i → cntL (l.setIfInBounds i true) m = cntL l m := by
  intro m
  induction m with
  | zero => intro _; rfl
  | succ m ih =>
    intro h
    unfold cntL
    rw [ih (by omega), getD_set l i m hi, if_neg (by omega : ¬ m = i)]
theorem cntL_in (l : Array Bool) (i : Nat) (hi : i < l.size) (h0 : l.getD i false = false) : ∀ m, i < m → cntL (l.setIfInBounds i true) m + 1 = cntL l m := by
  intro m
  induction m with
  | zero => intro h; omega
  | succ m ih =>
    intro h
    unfold cntL
    rw [getD_set l i m hi]
    by_cases e : m = i
    · subst e
      rw [cntL_out l m hi m (Nat.le_refl _), if_pos rfl, if_pos rfl, h0]
      rfl
    · rw [if_neg e]
      have := ih (by omega)
      omega
theorem region_inv {m : Nat} {base : Array Value} {ds : List Deferred} {B : World → Prop} {Φ : Nat → Value → World → Prop} {Ψ : Nat → Nat → Value → Value → Prop}
    (hok : frontOK ops m base.size = true) (hB : ∀ w w', Below w.heap.size w w' → B w → B w') (hΦ : ∀ i v w w', Below w.heap.size w w' → Φ i v w → Φ i v w')
    (hstep : ∀ i, i < m → ∀ s w, (∀ k, k ∉ dsts ops m → s k = base.getD k undef) → B w → (∀ d ∈ depsOf ops i, Φ d (s (dstOf ops d)) w) → StepG P ops i (dstOf ops) s w (fun v w' => Below w.heap.size w w' ∧ Φ i v w' ∧ ∀ j, j < m → j ≠ i → ∀ u, Φ j u w → Ψ i j v u ∧ Ψ j i u v))
    (hend : ∀ s w, B w → (∀ i, i < m → Φ i (s (dstOf ops i)) w) → (∀ i j, i < m → j < m → i ≠ j → Ψ i j (s (dstOf ops i)) (s (dstOf ops j))) → wpAny P .any ops Q (ops.size - m) (frontL ops m) ⟨setAll base s (dsts ops m), ds⟩ w) :
    ∀ n l a w, InvS ops m base ds B Φ Ψ l a w → cntL l m = n → wpAny P .any ops Q (n + (ops.size - m)) l a w := by
  unfold frontOK at hok
  simp only [Bool.and_eq_true, decide_eq_true_eq, List.all_eq_true, List.mem_range] at hok
  obtain ⟨⟨⟨hms, hops⟩, hdis⟩, hpath⟩ := hok
  have hget : ∀ i, i < m → ∃ o d, ops[i]? = some o ∧ (∀ g b, o.guard = some (g, b) → g < m) ∧ o.dst = some d ∧ d < base.size ∧ ∀ e ∈ depsOf ops i, e < i := fun i hi => by
    have h := hops i hi
    cases ho : ops[i]? with
    | none => rw [ho] at h; cases h
    | some o =>
      rw [ho] at h
      simp only [Bool.and_eq_true, List.all_eq_true, decide_eq_true_eq] at h
      obtain ⟨⟨h1, h2⟩, h3⟩ := h
      cases hd : o.dst with
      | none => rw [hd] at h2; cases h2
      | some d =>
        rw [hd] at h2
        exact ⟨o, d, rfl, (fun g b hg => by rw [hg] at h1; simpa using h1), hd, by simpa using h2, h3⟩
  intro n
  induction n with
  | zero =>
    intro l a w hI hc
    rw [Nat.zero_add]
    have hall := cntL_zero l m hc
    have hl : l = frontL ops m := by
      apply Array.ext
      · rw [hI.size]; simp [frontL]
      · intro i h1 h2
        have e1 : l[i] = l.getD i false := by simp [Array.getD, h1]
        have e2 : (frontL ops m)[i] = decide (i < m) := by simp [frontL]
        rw [e1, e2]
        by_cases h : i < m
        · rw [hall i h]; simp [h]
        · rw [hI.back i (by omega)]; simp [h]
    have ha : a = ⟨setAll base (fun k => a.tmps.getD k undef) (dsts ops m), ds⟩ := by
      obtain ⟨tm, df⟩ := a
      have h1 := hI.defs
      have h2 := hI.tsize
      have h3 := hI.rest
      simp only at h1 h2 h3 ⊢
      subst h1
      congr 1
      apply Array.ext
      · rw [setAll_size, h2]
      · intro k hk1 hk2
        have e := setAll_get (fun k => tm.getD k undef) k (dsts ops m) base (by omega)
        rw [Array.getElem?_eq_getElem hk2] at e
        have e := Option.some.inj e
        rw [e]
        by_cases h : k ∈ dsts ops m
        · rw [if_pos h]; simp [Array.getD, hk1]
        · rw [if_neg h, ← h3 k h]; simp [Array.getD, hk1]
    rw [hl, ha]
    exact hend _ w hI.base (fun i hi => hI.facts i hi (hall i hi)) (fun i j hi hj hne => hI.pairs i j hi hj hne (hall i hi) (hall j hj))
  | succ n ih =>
    intro l a w hI hc
    rw [show n + 1 + (ops.size - m) = (n + (ops.size - m)) + 1 from by omega]
    obtain ⟨i0, hi0, hn0, hlo⟩ := cntL_some l m n hc
    have hr0 : i0 ∈ Region.ready .any ops l := by
      obtain ⟨o, d, _, _, _, _, hde⟩ := hget i0 hi0
      refine ready_of (by omega) ?_ (fun e he => hlo e (hde e he))
      have : i0 < l.size := by rw [hI.size]; omega
      simpa [Array.getD, this] using hn0
    refine ⟨(fun h => by rw [h] at hr0; cases hr0), fun i hi => ?_⟩
    obtain ⟨his, hun, hdl⟩ := mem_ready hi
    have hil : i < l.size := by rw [hI.size]; exact his
    have hunf : l.getD i false = false := by simpa [Array.getD, hil] using hun
    have him : i < m := by
      by_cases h : i < m
      · exact h
      · have := path_listed hI.closed 8 i i0 (by have := hpath (i - m) (by omega) i0 hi0; rwa [show m + (i - m) = i from by omega] at this) hdl
        rw [hn0] at this; cases this
    obtain ⟨o, d, ho, hgd, hdst, hdlt, hde⟩ := hget i him
    unfold wpOp
    simp only [ho]
    have hst := hstep i him (fun k => a.tmps.getD k undef) w hI.rest hI.base (fun e he => hI.facts e (by have := hde e he; omega) (hdl e he))
    have hoo : ops.getD i default = o := by simp [Array.getD_eq_getD_getElem?, ho]
    unfold StepG at hst
    rw [hoo] at hst
    have hdi : dstOf ops i = d := by unfold dstOf; rw [ho]; simp [hdst]
    have hput : ∀ (v : Value) k, (a.put o.dst v).tmps.getD k undef = if k = d then v else a.tmps.getD k undef := fun v k => by
      unfold Act.put
      rw [hdst]
      simp only [Array.getD_eq_getD_getElem?]
      by_cases e : k = d
      · subst e
        have : k < a.tmps.size := by rw [hI.tsize]; exact hdlt
        simp [this]
      · rw [Array.getElem?_setIfInBounds_ne (Ne.symm e), if_neg e]
    have fin : ∀ v w', Below w.heap.size w w' → Φ i v w' → (∀ j, j < m → j ≠ i → ∀ u, Φ j u w → Ψ i j v u ∧ Ψ j i u v) → wpAny P .any ops Q (n + (ops.size - m)) (l.setIfInBounds i true) (a.put o.dst v) w' := by
      intro v w' hbel hphi hpsi
      refine ih _ _ _ ⟨by simpa using hI.size, fun j hj e he => ?_, fun j hj => ?_, ?_, ?_, fun k hk => ?_, hB _ _ hbel hI.base, fun j hj hl => ?_, fun j k hj hk hne hlj hlk => ?_⟩ ?_
      · rw [getD_set l i _ hil] at hj ⊢
        by_cases h1 : e = i
        · rw [if_pos h1]
        · rw [if_neg h1]
          by_cases h2 : j = i
          · subst h2; exact hdl e he
          · rw [if_neg h2] at hj; exact hI.closed j hj e he
      · rw [getD_set l i _ hil, if_neg (by omega)]; exact hI.back j hj
      · unfold Act.put; rw [hdst]; exact hI.defs
      · unfold Act.put; rw [hdst]; simpa using hI.tsize
      · rw [hput, if_neg (fun h => hk (by unfold dsts; rw [List.mem_map]; exact ⟨i, List.mem_range.2 him, by rw [hdi, h]⟩))]
        exact hI.rest k hk
      · rw [getD_set l i _ hil] at hl
        rw [hput]
        by_cases e : j = i
        · subst e; rw [if_pos hdi]; exact hphi
        · rw [if_neg e] at hl
          have h2 := hdis i him j hj
          rw [Bool.or_eq_true] at h2
          have h3 : dstOf ops j ≠ d := by
            rcases h2 with h2 | h2
            · exact absurd (by simpa using h2) (Ne.symm e)
            · rw [hdi] at h2; exact Ne.symm (by simpa using h2)
          rw [if_neg h3]
          exact hΦ _ _ _ _ hbel (hI.facts j hj hl)
      · have hds : ∀ j, j < m → j ≠ i → dstOf ops j ≠ d := fun j hj e => by
          have h2 := hdis i him j hj
          rw [Bool.or_eq_true] at h2
          rcases h2 with h2 | h2
          · exact absurd (by simpa using h2) (Ne.symm e)
          · rw [hdi] at h2; exact Ne.symm (by simpa using h2)
        rw [getD_set l i _ hil] at hlj hlk
        rw [hput, hput]
        by_cases e : j = i
        · subst e
          have hk2 : k ≠ j := Ne.symm hne
          rw [if_neg hk2] at hlk
          rw [if_pos hdi, if_neg (hds k hk hk2)]
          exact (hpsi k hk hk2 _ (hI.facts k hk hlk)).1
        · rw [if_neg e] at hlj
          rw [if_neg (hds j hj e)]
          by_cases e2 : k = i
          · subst e2
            rw [if_pos hdi]
            exact (hpsi j hj e _ (hI.facts j hj hlj)).2
          · rw [if_neg e2] at hlk
            rw [if_neg (hds k hk e2)]
            exact hI.pairs j k hj hk hne hlj hlk
      · have := cntL_in l i hil hunf m him
        omega
    cases hgc : o.guard with
    | none =>
      have hw : Region.wanted o (yielded ops a.tmps) = true := by unfold Region.wanted; rw [hgc]
      rw [if_pos hw]
      left
      rw [hgc] at hst
      exact hst.wp fun v w' ⟨hbel, hphi, hpsi⟩ => fin v w' hbel hphi hpsi
    | some gb =>
      obtain ⟨g, b⟩ := gb
      have hgm := hgd g b hgc
      obtain ⟨og, dg, hog, _, hdg, hdgl, _⟩ := hget g hgm
      have hyu : a.tmps.getD (dstOf ops g) undef = undef → yielded ops a.tmps g = none := fun hc => by
        have e1 : dstOf ops g = dg := by unfold dstOf; rw [hog]; simp [hdg]
        rw [e1] at hc
        have h2 : a.tmps[dg]? = some undef := by
          have hlt : dg < a.tmps.size := by rw [hI.tsize]; exact hdgl
          rw [Array.getElem?_eq_getElem hlt]
          simpa [Array.getD, hlt] using hc
        unfold yielded
        simp [hog, hdg, h2, undef]
      have hyd : ∀ c, a.tmps.getD (dstOf ops g) undef = .bool c → yielded ops a.tmps g = some c := fun c hc => by
        have e1 : dstOf ops g = dg := by unfold dstOf; rw [hog]; simp [hdg]
        rw [e1] at hc
        have h2 : a.tmps[dg]? = some (.bool c) := by
          have hlt : dg < a.tmps.size := by rw [hI.tsize]; exact hdgl
          rw [Array.getElem?_eq_getElem hlt]
          simpa [Array.getD, hlt] using hc
        unfold yielded
        simp [hog, hdg, h2]
      rw [hgc] at hst
      rcases hst with ⟨hc, hst⟩ | ⟨hc | hc, hbel, hphi, hpsi⟩
      · have hw : Region.wanted o (yielded ops a.tmps) = true := by unfold Region.wanted; rw [hgc]; simp [hyd b hc]
        rw [if_pos hw]
        left
        exact hst.wp fun v w' ⟨hbel, hphi, hpsi⟩ => fin v w' hbel hphi hpsi
      · have hw : ¬ Region.wanted o (yielded ops a.tmps) = true := by unfold Region.wanted; rw [hgc]; simp [hyd (!b) hc]
        rw [if_neg hw]
        exact fin undef w hbel hphi hpsi
      · have hw : ¬ Region.wanted o (yielded ops a.tmps) = true := by unfold Region.wanted; rw [hgc]; simp [hyu hc]
        rw [if_neg hw]
        exact fin undef w hbel hphi hpsi
/-- THE LAW: a region that draws its order; the first m operations each leave what Φ says, whatever the order, and make memory or only read; behind them the rest goes on. -/
theorem wp_region_front (m : Nat) (D : List Nat) (N : Nat) (l0 : Array Bool) (B : World → Prop) (Φ : Nat → Value → World → Prop) (Ψ : Nat → Nat → Value → Value → Prop) {id : Nat} {base : Array Value} {ds : List Deferred} {w : World} (hm : P.follows .mixedOrders = true)
    (hok : frontOK ops m base.size = true) (hD : dsts ops m = D) (hN : ops.size - m = N) (hl0 : frontL ops m = l0) (hB : ∀ w w', Below w.heap.size w w' → B w → B w') (hΦ : ∀ i v w w', Below w.heap.size w w' → Φ i v w → Φ i v w') (h0 : B w.drew)
    (hstep : ∀ i, i < m → ∀ s w, (∀ k, k ∉ D → s k = base.getD k undef) → B w → (∀ d ∈ depsOf ops i, Φ d (s (dstOf ops d)) w) → StepG P ops i (dstOf ops) s w (fun v w' => Below w.heap.size w w' ∧ Φ i v w' ∧ ∀ j, j < m → j ≠ i → ∀ u, Φ j u w → Ψ i j v u ∧ Ψ j i u v))
    (hend : ∀ s w, B w → (∀ i, i < m → Φ i (s (dstOf ops i)) w) → (∀ i j, i < m → j < m → i ≠ j → Ψ i j (s (dstOf ops i)) (s (dstOf ops j))) → wpAny P .any ops Q N l0 ⟨setAll base s D, ds⟩ w) :
    (Code.region id ops true).wp P Q ⟨base, ds⟩ w := by
  subst hD hN hl0
  refine wp_region_any hm ?_
  have hms : m ≤ ops.size := by
    have := hok
    unfold frontOK at this
    simp only [Bool.and_eq_true, decide_eq_true_eq] at this
    exact this.1.1.1
  have hrep : ∀ i, (Array.replicate ops.size false).getD i false = false := fun i => by
    simp only [Array.getD_eq_getD_getElem?, Array.getElem?_replicate]
    split <;> rfl
  have hcnt : ∀ m, cntL (Array.replicate ops.size false) m = m := by
    intro m
    induction m with
    | zero => rfl
    | succ m ih => unfold cntL; rw [ih, hrep]; rfl
  have h := region_inv hok hB hΦ hstep hend m (Array.replicate ops.size false) ⟨base, ds⟩ w.drew ⟨by simp, (fun i hi => by rw [hrep] at hi; cases hi), fun j _ => hrep j, rfl, rfl, fun k _ => rfl, h0, (fun i _ hi => by rw [hrep] at hi; cases hi), (fun i j _ _ _ hi => by rw [hrep] at hi; cases hi)⟩ (hcnt m)
  rw [show m + (ops.size - m) = ops.size from by omega] at h
  exact h
/-- What is left of a region, where but one operation may come up. -/
theorem wpAny_one {n : Nat} {listed : Array Bool} {a : Act} {w : World} (i : Nat) (o : Oper) (hr : Region.ready .any ops listed = [i]) (ho : ops[i]? = some o) (hg : o.guard = none)
    (h : o.wp P a w (fun a' w' => wpAny P .any ops Q n (listed.setIfInBounds i true) a' w') Q) : wpAny P .any ops Q (n + 1) listed a w := by
  refine ⟨fun h0 => by rw [hr] at h0; (cases h0), fun j hj => ?_⟩
  rw [hr] at hj
  obtain rfl : j = i := by simpa using hj
  unfold wpOp
  simp only [ho]
  have hw : Region.wanted o (yielded ops a.tmps) = true := by unfold Region.wanted; rw [hg]
  rw [if_pos hw]
  exact .inl h
theorem wpAny_end {listed : Array Bool} {a : Act} {w : World} (hr : Region.ready .any ops listed = []) (h : Q .normal a w) : wpAny P .any ops Q 0 listed a w := ⟨hr, h⟩
end
end Go.Proofs.YtljdfhckllncoaaK

namespace Go.Proofs.YtljdfhckllncoaaK
open Go.RowKit
set_option linter.unusedSimpArgs false
set_option linter.unusedVariables false
section
variable {P : Program} {o : Oper} {s : Nat → Value} {w : World} {K : Value → World → Prop}
theorem stepS_move (x : Operand) (ho : o.op = .move x) (h : K (evS s x) w) : StepS P o s w K := by
  unfold StepS execOp; simp only [ho]; exact h
theorem stepS_assign (x : Operand) (ho : o.op = .assign x) (h : K (evS s x) w) : StepS P o s w K := by
  unfold StepS execOp; simp only [ho]; exact h
theorem stepS_load {ty : TypeId} {x : Operand} (ho : o.op = .load ty x) {b : Nat} {L : List Value} {d : TypeDesc} (hx : evS s x = .pointer (some ⟨b, 0, none⟩)) (hA : Arr w b L)
    (hu : P.underlying ty = some d) (hd : d.isRow = true) (hi : (P.info? ty).map (·.size) = some L.length) (h : K (.agg L.toArray) w) : StepS P o s w K := by
  unfold StepS execOp
  simp only [ho, hx, Instr.loadAt, Instr.sureAddr, Sem.run_bind, Sem.run_pure, Result.andThen_ok, run_loadVar_mid w b 0 ty L d hA.1 hu hd hi]
  exact h
theorem stepS_call {fn : Func} {f : FuncId} {args : Array Operand} {ts : Array TypeId} (ho : o.op = .call { callee := .value (.func f), args := args, argTypes := ts }) (hf : P.funcs[f]? = some fn) (hn : (fn.name == "runtime.NumGoroutine") = false) (hb : fn.body.isSome = true) (vs : Array Value) (hv : args.map (evS s) = vs)
    (h : Calls P f vs w fun e w'' => ∃ u, e = .returned u ∧ K u w'') : StepS P o s w K := by
  unfold StepS execOp
  simp only [ho]
  subst hv
  have hn' : ¬ fn.name = "runtime.NumGoroutine" := by simpa using hn
  have hb' : ¬ fn.body = none := by intro h0; rw [h0] at hb; cases hb
  simpa [resolve, invoke, evS, Deferred.ofValue, callFunc, Sem.run_bind, Result.andThen, hf, hn', hb'] using h
theorem stepS_alloc {t : TypeId} (ho : o.op = .alloc t) {z : Value} (hz : (zeroValue t).run P w = .ok z w) (h : K (.pointer (some ⟨w.heap.size, 0, none⟩)) (w.alloc (.cells z.cells t))) : StepS P o s w K := by
  unfold StepS execOp
  simp only [ho]
  simp [Instr.alloc, Sem.run_bind, hz, Result.andThen, newVar, newRow, run_newObj]
  exact h
theorem stepS_empty {t e : TypeId} {i : TypeInfo} (ho : o.op = .buildSlice t 0 #[]) (ht : P.underlying t = some (.slice e)) (hi : P.info? e = some i) (h : K (.slice (some ⟨w.heap.size, 0, none⟩) 0 0) (w.alloc (.cells #[] e))) : StepS P o s w K := by
  unfold StepS execOp
  simp only [ho]
  simp [Instr.buildSlice, Sem.run_bind, Result.andThen, run_underlying ht, sizeOf, typeInfo, hi, Instr.fill, newRow, run_newObj]
  have e0 : (Array.range 0).map (fun _ => (default : Value)) = #[] := by simp
  first
    | exact h
    | (rw [e0]; exact h)
    | (simpa using h)
theorem stepS_one {t e : TypeId} {i : TypeInfo} {x : Operand} {v : Value} (ho : o.op = .buildSlice t 1 #[(0, x)]) (ht : P.underlying t = some (.slice e)) (hi : P.info? e = some i) (hs : i.size = 1) (hx : evS s x = v) (h1 : v.cells = #[v]) {z : Value} (hz : (zeroValue e).run P w = .ok z w)
    (h : K (.slice (some ⟨w.heap.size, 0, none⟩) 1 1) (w.alloc (.cells #[v] e))) : StepS P o s w K := by
  unfold StepS execOp
  simp only [ho]
  simp [Instr.buildSlice, Sem.run_bind, Result.andThen, run_underlying ht, sizeOf, typeInfo, hi, hs, hx, h1, hz, Instr.fill, newRow, run_newObj]
  have e1 : ((Array.range 1).map (fun x => z.cells[x % z.cells.size]!)).setIfInBounds 0 v = #[v] := by
    apply Array.ext
    · simp
    · intro j hj1 hj2
      simp at hj1
      subst hj1
      simp
  rw [e1]
  exact h
theorem below_of_none {w w1 : World} (hg : w.grownBy w1 none) : Below w.heap.size w w1 :=
  (Below.refl w.heap.size w).grown hg (Nat.le_refl _) (fun k hk => by cases hk)
/-- append onto an empty slice that has no room. -/
theorem stepS_append {x y : Operand} {t e : TypeId} {z : Value} {size bytes : Nat} (ho : o.op = .call { callee := .builtin .append, args := #[x, y], argTypes := #[t, t] })
    (ht : P.underlying t = some (.slice e)) (hinfo : (P.info? e).map (fun i => (i.zero, i.size, i.bytes)) = some (some z, size, bytes)) (hz : z.cells.size = size) (hs0 : 0 < size) (hb0 : 0 < bytes)
    (b : Nat) (hx : evS s x = .slice (some ⟨b, 0, none⟩) 0 0) (A : Option Addr) (m c : Nat) (ys : List Value) (hy : evS s y = .slice A m c) (hA : At w A ys) (hm : ys.length = m * size) (h1 : ∀ u ∈ ys, u.oneCell' = true) (hl : m * bytes ≤ 140737488355328)
    (h : ∀ A' c' w', At w' A' ys → m ≤ c' → c' ≤ maxLen → Below w.heap.size w w' → K (.slice A' m c') w') : StepS P o s w K := by
  obtain ⟨i, hi, hzz⟩ := Option.map_eq_some_iff.1 hinfo
  simp only [Prod.mk.injEq] at hzz
  obtain ⟨hz0, hz1, hz2⟩ := hzz
  have hrun : ∃ A' c' w', (Builtin.append_ #[t, t] o.type #[.slice (some ⟨b, 0, none⟩) 0 0, .slice A m c]).run P w = .ok (.slice A' m c') w' ∧ At w' A' ys ∧ m ≤ c' ∧ c' ≤ maxLen ∧ Below w.heap.size w w' := by
    by_cases h0 : m = 0
    · subst h0
      have hy0 : ys = [] := by
        rw [Nat.zero_mul] at hm; exact List.length_eq_zero_iff.1 hm
      subst hy0
      refine ⟨some ⟨b, 0, none⟩, 0, w, ?_, fun j u hu => by simp at hu, Nat.le_refl _, by decide, Below.refl _ _⟩
      rcases A with _ | ad
      · simp [Builtin.append_, run_underlying ht, sizeOf, typeInfo, hi, Builtin.lenOf, Builtin.firstCells, storeCells]
      · have := run_append_room_cells (P := P) w t o.type e i ht hi b 0 0 0 ad 0 c [] (by simp) (fun j u hu => by simp at hu) (fun u hu => by simp at hu) (Nat.le_refl _) (fun j hj => by simp at hj) (fun j hj => by simp at hj)
        simpa [World.setCells] using this
    · rcases A with _ | ad
      · exfalso
        have hp : 0 < ys.length := by rw [hm]; exact Nat.mul_pos (Nat.pos_of_ne_zero h0) hs0
        obtain ⟨a', h', _⟩ := hA 0 _ (List.getElem?_eq_getElem hp)
        cases h'
      · have hcells : ∀ j u, ys[j]? = some u → w.cell? (ad.add j) = some u := by
          intro j u hu
          obtain ⟨ad', h', hc⟩ := hA j u hu
          injection h' with h'
          subst h'
          exact hc
        have hlen : m ≤ 140737488355328 := Nat.le_trans (Nat.le_mul_of_pos_right _ hb0) hl
        obtain ⟨v', w', hr, ho', hg⟩ := run_append_arg_grows (P := P) w t o.type e i z size bytes ht hi hz0 hz1 hz2 hz hs0 ⟨b, 0, none⟩ 0 0 [] (by simp) (fun j u hu => by simp at hu) ad m c ys hm hcells (by omega) (by simp only [maxLen]; omega) (by rw [Nat.zero_add]; exact hl)
        rw [Nat.zero_add, List.nil_append] at ho'
        rcases ho'.2 with ⟨rfl, hn⟩ | ⟨g, cap, cur, rfl, _, _, hnc, hcm, _⟩
        · exact absurd hn h0
        · exact ⟨_, cap, w', hr, own_at ho', hnc, hcm, below_of_none hg⟩
  obtain ⟨A', c', w', hr, hat, hmc, hcm, hb⟩ := hrun
  unfold StepS execOp
  simp only [ho, resolve, invoke, builtin, Sem.run_bind, Sem.run_pure, Result.andThen_ok, List.map_toArray, List.map_cons, List.map_nil, hx, hy, hr]
  exact h A' c' w' hat hmc hcm hb
theorem stepG_plain {ops : Array Oper} {i : Nat} {dst : Nat → Nat} (hg : (ops.getD i default).guard = none) (h : StepS P (ops.getD i default) s w K) : StepG P ops i dst s w K := by
  unfold StepG; rw [hg]; exact h
theorem stepG_struck {ops : Array Oper} {i g : Nat} {b : Bool} {dst : Nat → Nat} (hg : (ops.getD i default).guard = some (g, b)) (hs : s (dst g) = .bool b) (h : StepS P (ops.getD i default) s w K) : StepG P ops i dst s w K := by
  unfold StepG; rw [hg]; exact .inl ⟨hs, h⟩
theorem stepG_not {ops : Array Oper} {i g : Nat} {b : Bool} {dst : Nat → Nat} (hg : (ops.getD i default).guard = some (g, b)) (hs : s (dst g) = .bool (!b)) (h : K undef w) : StepG P ops i dst s w K := by
  unfold StepG; rw [hg]; exact .inr ⟨.inl hs, h⟩
theorem stepG_undef {ops : Array Oper} {i g : Nat} {b : Bool} {dst : Nat → Nat} (hg : (ops.getD i default).guard = some (g, b)) (hs : s (dst g) = undef) (h : K undef w) : StepG P ops i dst s w K := by
  unfold StepG; rw [hg]; exact .inr ⟨.inr hs, h⟩
/-- An operation whose run is known. -/
theorem stepS_run {v : Value} (hr : (execOp (evS s) o).run P w = .ok (.value v) w) (h : K v w) : StepS P o s w K := by
  unfold StepS; rw [hr]; exact h
end
end Go.Proofs.YtljdfhckllncoaaK

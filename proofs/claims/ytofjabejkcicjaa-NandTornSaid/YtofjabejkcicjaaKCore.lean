import Derived.WalkKit
import Derived.WalkSpells
import Derived.WalkLawsBesides
import Derived.Lib.Hide
import Derived.Deep.LoopGhost
import Derived.Maps.AppendAt
namespace Go.Proofs.YtofjabejkcicjaaK
open Go.RowKit
set_option linter.unusedSimpArgs false
set_option linter.unusedVariables false

/-! Rows of cells that are read. -/
/-- From the address A on the world reads these values, cell by cell. -/
def At (w : World) (A : Option Addr) (vs : List Value) : Prop := ∀ j u, vs[j]? = some u → ∃ a, A = some a ∧ w.cell? (a.add j) = some u
theorem At.below {w w1 : World} {A : Option Addr} {vs : List Value} (h : At w A vs) (hb : Below w.heap.size w w1) : At w1 A vs := fun j u hu => by
  obtain ⟨a, ha, hc⟩ := h j u hu
  exact ⟨a, ha, (hb.cell (World.block_lt_of_cell? w _ hc)).trans hc⟩
theorem At.nil (w : World) (A : Option Addr) : At w A [] := fun j u hu => by simp at hu
theorem At.get {w : World} {A : Option Addr} {vs : List Value} (h : At w A vs) (j : Nat) (hj : j < vs.length) : ∃ a, A = some a ∧ w.cell? (a.add j) = some vs[j] :=
  h j _ (List.getElem?_eq_getElem hj)
/-- The same for a one-cell encoding. -/
theorem At.map {α : Type} {enc : α → Value} {w : World} {A : Option Addr} {xs : List α} (h : At w A (xs.map enc)) (j : Nat) (hj : j < xs.length) : ∃ a, A = some a ∧ w.cell? (a.add j) = some (enc xs[j]) := by
  have := h j (enc xs[j]) (by rw [List.getElem?_map, List.getElem?_eq_getElem hj]; rfl)
  exact this
def encB (b : UInt8) : Value := .int .u8 (b.toNat : Int)
def encI (k : IntKind) (n : Int) : Value := .int k n
/-- A slice value of bytes, readable in w. -/
def Bs (w : World) (v : Value) (bs : List UInt8) : Prop := ∃ A c, v = .slice A bs.length c ∧ bs.length ≤ c ∧ bs.length ≤ 9223372036854775807 ∧ At w A (bs.map encB)
theorem Bs.below {w w1 : World} {v : Value} {bs : List UInt8} (h : Bs w v bs) (hb : Below w.heap.size w w1) : Bs w1 v bs := by
  obtain ⟨A, c, h1, h2, h3, h4⟩ := h
  exact ⟨A, c, h1, h2, h3, h4.below hb⟩
theorem Bs.at {w : World} {A : Option Addr} {n c : Nat} {bs : List UInt8} (h : Bs w (.slice A n c) bs) : At w A (bs.map encB) := by
  obtain ⟨A', c', he, _, _, h4⟩ := h
  injection he with e1 e2 e3
  rw [e1]; exact h4
theorem Bs.len {w : World} {A : Option Addr} {n c : Nat} {bs : List UInt8} (h : Bs w (.slice A n c) bs) : n = bs.length := by
  obtain ⟨A', c', he, _, _, h4⟩ := h
  injection he with e1 e2 e3
theorem Bs.cells {w : World} {A : Option Addr} {n c : Nat} {bs : List UInt8} (h : Bs w (.slice A n c) bs) : (bs.map encB).length = n * 1 := by
  rw [List.length_map, h.len]; omega
/-- A slice of slices of bytes. -/
def Bss (w : World) (v : Value) (xss : List (List UInt8)) : Prop :=
  ∃ A c vs, v = .slice A xss.length c ∧ xss.length ≤ c ∧ xss.length ≤ 9223372036854775807 ∧ vs.length = xss.length ∧ At w A vs ∧ ∀ j (hj : j < xss.length) (hv : j < vs.length), Bs w vs[j] xss[j]
theorem Bss.get {w : World} {A : Option Addr} {n c : Nat} {xss : List (List UInt8)} (h : Bss w (.slice A n c) xss) (j : Nat) (hj : j < xss.length) :
    ∃ a v, A = some a ∧ w.cell? (a.add j) = some v ∧ Bs w v xss[j] := by
  obtain ⟨A', c', vs, he, h1, h2, h3, h4, h5⟩ := h
  injection he with e1 e2 e3
  subst e1
  obtain ⟨a, ha, hc⟩ := h4.get j (by omega)
  exact ⟨a, vs[j]'(by omega), ha, hc, h5 j hj (by omega)⟩

theorem At.new (w : World) (cs : Array Value) (T : TypeId) (fz : Nat × Nat) : At (w.alloc (.cells cs T fz)) (some ⟨w.heap.size, 0, none⟩) cs.toList := by
  intro j u hu
  refine ⟨_, rfl, ?_⟩
  rw [show (⟨w.heap.size, 0, none⟩ : Addr).add j = ⟨w.heap.size, j, none⟩ from by unfold Addr.add; split <;> simp_all]
  rw [cell_of_row (w.alloc (.cells cs T fz)) w.heap.size j cs T fz (heap_alloc_new w _)]
  simpa using hu
theorem At.alloc {w : World} {A : Option Addr} {vs : List Value} (h : At w A vs) (o : Obj) : At (w.alloc o) A vs := h.below ((Below.refl _ _).alloc (Nat.le_refl _) o)
theorem Bs.alloc {w : World} {v : Value} {bs : List UInt8} (h : Bs w v bs) (o : Obj) : Bs (w.alloc o) v bs := h.below ((Below.refl _ _).alloc (Nat.le_refl _) o)
theorem Bs.new {w : World} {bs : List UInt8} {cs : Array Value} {n b : Nat} {T : TypeId} {fz : Nat × Nat} (hb : b = w.heap.size) (h : cs.toList = bs.map encB) (hn : n = bs.length) (hl : n ≤ 9223372036854775807) :
    Bs (w.alloc (.cells cs T fz)) (.slice (some ⟨b, 0, none⟩) n n) bs := by
  subst hb
  subst hn
  exact ⟨_, _, rfl, Nat.le_refl _, hl, h ▸ At.new w cs T fz⟩
/-- A new row of slices of bytes. -/
theorem Bss.new {w : World} {vs : List Value} {xss : List (List UInt8)} {n b : Nat} {T : TypeId} {fz : Nat × Nat} (hb : b = w.heap.size) (hn : n = xss.length) (hv : vs.length = xss.length) (hl : n ≤ 9223372036854775807)
    (h : ∀ j (hj : j < xss.length) (hv : j < vs.length), Bs w vs[j] xss[j]) : Bss (w.alloc (.cells vs.toArray T fz)) (.slice (some ⟨b, 0, none⟩) n n) xss := by
  subst hb
  subst hn
  refine ⟨_, _, vs, rfl, Nat.le_refl _, hl, hv, ?_, fun j hj hj' => (h j hj hj').alloc _⟩
  have := At.new w vs.toArray T fz
  simpa using this
theorem Bss.new1 {w : World} {v : Value} {bs : List UInt8} {b : Nat} {T : TypeId} {fz : Nat × Nat} (hb : b = w.heap.size) (h : Bs w v bs) : Bss (w.alloc (.cells #[v] T fz)) (.slice (some ⟨b, 0, none⟩) 1 1) [bs] :=
  Bss.new (vs := [v]) hb rfl rfl (by omega) (fun j hj _ => by
    obtain rfl : j = 0 := by simp at hj; exact hj
    exact h)
theorem Bss.new2 {w : World} {v v' : Value} {bs bs' : List UInt8} {b : Nat} {T : TypeId} {fz : Nat × Nat} (hb : b = w.heap.size) (h : Bs w v bs) (h' : Bs w v' bs') : Bss (w.alloc (.cells #[v, v'] T fz)) (.slice (some ⟨b, 0, none⟩) 2 2) [bs, bs'] :=
  Bss.new (vs := [v, v']) hb rfl rfl (by omega) (fun j hj _ => by
    match j, hj with
    | 0, _ => exact h
    | 1, _ => exact h')
theorem Bss.nil (w : World) : Bss w (.slice none 0 0) [] := ⟨none, 0, [], rfl, by simp, by simp, rfl, At.nil w _, fun j hj => by simp at hj⟩
theorem Bss.below {w w1 : World} {v : Value} {xss : List (List UInt8)} (h : Bss w v xss) (hb : Below w.heap.size w w1) : Bss w1 v xss := by
  obtain ⟨A, c, vs, h1, h2, h3, h4, h5, h6⟩ := h
  exact ⟨A, c, vs, h1, h2, h3, h4, h5.below hb, fun j hj hv => (h6 j hj hv).below hb⟩
theorem Bss.alloc {w : World} {v : Value} {xss : List (List UInt8)} (h : Bss w v xss) (o : Obj) : Bss (w.alloc o) v xss := h.below ((Below.refl _ _).alloc (Nat.le_refl _) o)
theorem encB_all (bs : List UInt8) : ∀ u ∈ bs.map encB, u.oneCell' = true := by
  intro u hu
  obtain ⟨b, _, rfl⟩ := List.mem_map.1 hu
  rfl
theorem encB_one (b : UInt8) : (encB b).oneCell' = true := rfl
theorem At.length_pos {w : World} {A : Option Addr} {vs : List Value} (h : At w A vs) (hv : vs ≠ []) : ∃ a, A = some a := by
  cases vs with
  | nil => exact absurd rfl hv
  | cons u l => obtain ⟨a, ha, _⟩ := h 0 u rfl; exact ⟨a, ha⟩
/-- 'append(s, x...)': s is a row of the call's own, x reads as ys. -/
theorem wp_append {P : Program} {ops : Array Oper} {rest : List Oper} {o : Oper} {a : Act} {Q : Exit → Act → World → Prop} {W : World} (base : Nat) (hgd : Region.wanted o (yielded ops a.tmps) = true) (s x : Operand) (t e : TypeId) (z : Value) (size bytes : Nat)
    (ho : o.op = .call { callee := .builtin .append, args := #[s, x], argTypes := #[t, t] })
    (ht : P.underlying t = some (.slice e)) (hinfo : (P.info? e).map (fun i => (i.zero, i.size, i.bytes)) = some (some z, size, bytes)) (hz : z.cells.size = size) (hs0 : 0 < size) (hb0 : 0 < bytes)
    (v : Value) (n : Nat) (xs : List Value) (A : Option Addr) (m c : Nat) (ys : List Value) (hs : a.eval s = v) (hx : a.eval x = .slice A m c)
    (HO : W.ownsRow base e size v n xs) (HR : At W A ys) (hm : ys.length = m * size) (h1 : ∀ u ∈ ys, u.oneCell' = true)
    (hbase : base ≤ W.heap.size) (hl : (n + m) * bytes ≤ 140737488355328)
    (h : ∀ v1 w1, w1.ownsRow base e size v1 (n + m) (xs ++ ys) → W.grownBy w1 v.ownBlock → (v1.ownBlock = v.ownBlock ∨ v1.ownBlock = some W.heap.size) → wpList P ops Q rest (a.put o.dst v1) w1) :
    wpList P ops Q (o :: rest) a W := by
  obtain ⟨i0, hi, hzz⟩ := Option.map_eq_some_iff.1 hinfo
  simp only [Prod.mk.injEq] at hzz
  obtain ⟨hz0, hz1, hz2⟩ := hzz
  have hlen : n + m ≤ 140737488355328 := Nat.le_trans (Nat.le_mul_of_pos_right _ hb0) hl
  have hrun : ∃ v1 w1, (Builtin.append_ #[t, t] o.type #[v, .slice A m c]).run P W = .ok v1 w1 ∧ w1.ownsRow base e size v1 (n + m) (xs ++ ys) ∧ W.grownBy w1 v.ownBlock ∧ (v1.ownBlock = v.ownBlock ∨ v1.ownBlock = some W.heap.size) := by
    rcases A with _ | ad
    · have h0 : ys = [] := by
        by_cases hy : ys = []
        · exact hy
        · obtain ⟨a', h'⟩ := HR.length_pos hy
          cases h'
      subst h0
      have hm0 : m = 0 := by
        rcases Nat.eq_zero_or_pos m with h0 | h0
        · exact h0
        · have := Nat.mul_pos h0 hs0
          simp at hm; omega
      subst hm0
      refine ⟨v, W, ?_, by simpa using HO, World.grownBy.refl W _, .inl rfl⟩
      rcases HO.2 with ⟨rfl, hn⟩ | ⟨g, cap, cur, rfl, _, _, hnc, _⟩
      · simp [Builtin.append_, run_underlying ht, sizeOf, typeInfo, hi, Builtin.lenOf, Builtin.firstCells, hn]
      · simp [Builtin.append_, run_underlying ht, sizeOf, typeInfo, hi, Builtin.lenOf, Builtin.firstCells, hnc, storeCells]
    · have hcells : ∀ j u, ys[j]? = some u → W.cell? (ad.add j) = some u := by
        intro j u hu
        obtain ⟨ad', h', hc⟩ := HR j u hu
        injection h' with h'
        subst h'
        exact hc
      obtain ⟨v1, w1, hr, h2, h3, _, h5⟩ := run_append_own_at (P := P) W base t o.type e i0 z size bytes ht hi hz0 hz1 hz2 hz hs0 v n xs HO ad m c ys hm hcells h1 (by simp only [maxLen]; omega) hl hbase
      exact ⟨v1, w1, hr, h2, h3, h5⟩
  obtain ⟨v1, w1, hr, hown, hg, hat⟩ := hrun
  refine wpList_step fun K hK => ?_
  rw [if_pos hgd]
  unfold Oper.wp execOp
  simp only [ho, resolve, invoke, builtin, Sem.run_bind, Sem.run_pure, Result.andThen_ok, List.map_toArray, List.map_cons, List.map_nil, hs, hx, hr]
  exact hK _ _ (h v1 w1 hown hg hat)
/-- What is owned reads. -/
theorem own_at {w : World} {base n size : Nat} {e : TypeId} {A : Option Addr} {c : Nat} {xs : List Value} (h : w.ownsRow base e size (.slice A n c) n xs) : At w A xs := by
  intro j u hu
  rcases h.2 with ⟨he, hn⟩ | ⟨g, cap, cur, he, _⟩
  · subst hn
    have := h.1
    simp at this
    subst this
    simp at hu
  · injection he with e1 e2 e3
    subst e1
    exact ⟨_, rfl, h.cells (g := g) rfl j u hu⟩
theorem own_form {w : World} {base n size : Nat} {e : TypeId} {v : Value} {xs : List Value} (h : w.ownsRow base e size v n xs) : ∃ A c, v = .slice A n c ∧ n ≤ c ∧ n ≤ 9223372036854775807 := by
  rcases h.2 with ⟨rfl, hn⟩ | ⟨g, cap, cur, rfl, _, _, hnc, hcm, _⟩
  · exact ⟨none, 0, by rw [hn], by omega, by omega⟩
  · exact ⟨_, cap, rfl, hnc, by simp only [maxLen] at hcm; omega⟩
/-- A row of bytes of the call's own is a slice of bytes that reads. -/
theorem own_bs {w : World} {base n : Nat} {e : TypeId} {v : Value} {bs : List UInt8} (h : w.ownsRow base e 1 v n (bs.map encB)) : n = bs.length ∧ Bs w v bs := by
  have hl := h.1
  simp at hl
  obtain ⟨A, c, rfl, h1, h2⟩ := own_form h
  subst hl
  exact ⟨rfl, A, c, rfl, h1, h2, own_at h⟩
/-- A row that isn't empty: its block, its cells. -/
theorem own_pos {w : World} {base n size : Nat} {e : TypeId} {v : Value} {xs : List Value} (h : w.ownsRow base e size v n xs) (hn : 0 < n) : ∃ g c, v = .slice (some ⟨g, 0, none⟩) n c ∧ n ≤ c ∧ base ≤ g ∧ g < w.heap.size ∧ n ≤ 9223372036854775807 := by
  rcases h.2 with ⟨rfl, hn⟩ | ⟨g, cap, cur, rfl, hb, hh, hnc, hcm, _⟩
  · omega
  · exact ⟨g, cap, rfl, hnc, hb, (Array.getElem?_eq_some_iff.1 hh).1, by simp only [maxLen] at hcm; omega⟩
theorem own_cell {w : World} {base g n c size : Nat} {e : TypeId} {xs : List Value} (h : w.ownsRow base e size (.slice (some ⟨g, 0, none⟩) n c) n xs) (j : Nat) (u : Value) (hu : xs[j]? = some u) : w.cell? ⟨g, j, none⟩ = some u ∧ w.frozen? ⟨g, j, none⟩ = false := by
  constructor
  · have hc := h.cells (g := g) rfl j u hu
    rwa [show (⟨g, 0, none⟩ : Addr).add j = ⟨g, j, none⟩ from by unfold Addr.add; split <;> simp_all] at hc
  · rcases h.2 with ⟨h', _⟩ | ⟨g', cap', cur, h', _, hh, _⟩
    · cases h'
    · have : g = g' := by injection h' with h'; injection h' with h'; injection h' with h'
      subst this
      simp [World.frozen?, hh]
/-- An empty slice literal. -/
theorem own_empty {w : World} {base b : Nat} {e : TypeId} {size : Nat} (hb : b = w.heap.size) (h : base ≤ w.heap.size) : (w.alloc (.cells #[] e)).ownsRow base e size (.slice (some ⟨b, 0, none⟩) 0 0) 0 [] := by
  subst hb
  exact World.ownsRow_made _ #[] 0 h (by decide) (by simp)
theorem own_base {w : World} {base : Nat} {e : TypeId} {size n : Nat} {v : Value} {xs : List Value} (h : w.ownsRow base e size v n xs) (k : Nat) (hk : v.ownBlock = some k) : base ≤ k := (h.lt k hk).1
theorem below_grown {B : Nat} {w w1 w2 : World} (h : Below B w w1) {e : TypeId} {size n : Nat} {v : Value} {xs : List Value} (ho : w1.ownsRow B e size v n xs) (hg : w1.grownBy w2 v.ownBlock) (hB : B ≤ w1.heap.size) : Below B w w2 :=
  h.grown hg hB (own_base ho)
theorem below_size {w w1 : World} (h : Below w.heap.size w w1) : w.heap.size ≤ w1.heap.size := h.size
theorem own_below {w w1 : World} {base : Nat} {e : TypeId} {size n : Nat} {v : Value} {xs : List Value} (h : w.ownsRow base e size v n xs) (hb : Below w.heap.size w w1) : w1.ownsRow base e size v n xs :=
  h.kept (row := none) ⟨hb.os, hb.tape, hb.output, hb.size, fun i hi _ => hb.block i hi⟩ (by cases hv : v.ownBlock <;> simp)
/-- A slice of whole numbers, readable in w. -/
def Is (k : IntKind) (w : World) (v : Value) (xs : List Int) : Prop := ∃ A c, v = .slice A xs.length c ∧ xs.length ≤ c ∧ xs.length ≤ 9223372036854775807 ∧ At w A (xs.map (Value.int k))
theorem Is.below {k : IntKind} {w w1 : World} {v : Value} {xs : List Int} (h : Is k w v xs) (hb : Below w.heap.size w w1) : Is k w1 v xs := by
  obtain ⟨A, c, h1, h2, h3, h4⟩ := h
  exact ⟨A, c, h1, h2, h3, h4.below hb⟩
theorem Is.at {k : IntKind} {w : World} {A : Option Addr} {n c : Nat} {xs : List Int} (h : Is k w (.slice A n c) xs) : At w A (xs.map (Value.int k)) := by
  obtain ⟨A', c', he, _, _, h4⟩ := h
  injection he with e1 e2 e3
  rw [e1]; exact h4
theorem Is.len {k : IntKind} {w : World} {A : Option Addr} {n c : Nat} {xs : List Int} (h : Is k w (.slice A n c) xs) : n = xs.length := by
  obtain ⟨A', c', he, _, _, h4⟩ := h
  injection he with e1 e2 e3
theorem Is.max {k : IntKind} {w : World} {A : Option Addr} {n c : Nat} {xs : List Int} (h : Is k w (.slice A n c) xs) : n ≤ 9223372036854775807 := by
  obtain ⟨A', c', he, _, h3, h4⟩ := h
  injection he with e1 e2 e3
  omega
theorem Is.new {k : IntKind} {w : World} {xs : List Int} {cs : Array Value} {n b : Nat} {T : TypeId} {fz : Nat × Nat} (hb : b = w.heap.size) (h : cs.toList = xs.map (Value.int k)) (hn : n = xs.length) (hl : n ≤ 9223372036854775807) :
    Is k (w.alloc (.cells cs T fz)) (.slice (some ⟨b, 0, none⟩) n n) xs := by
  subst hb
  subst hn
  exact ⟨_, _, rfl, Nat.le_refl _, hl, h ▸ At.new w cs T fz⟩
theorem Is.alloc {k : IntKind} {w : World} {v : Value} {xs : List Int} (h : Is k w v xs) (o : Obj) : Is k (w.alloc o) v xs := h.below ((Below.refl _ _).alloc (Nat.le_refl _) o)
/-- A text out of bytes. -/
def str (bs : List UInt8) : ByteArray := ⟨bs.toArray⟩
theorem str_size (bs : List UInt8) : (str bs).size = bs.length := by simp [str, ByteArray.size]
@[go_sem] theorem str_toList (bs : List UInt8) : (str bs).toList = bs := ByteArray.toList_mk bs
end Go.Proofs.YtofjabejkcicjaaK

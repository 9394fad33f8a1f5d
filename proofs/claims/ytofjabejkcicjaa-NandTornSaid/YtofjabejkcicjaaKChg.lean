import Derived.Test.YtofjabejkcicjaaKNanB
import Derived.Test.YtofjabejkcicjaaKRow
namespace Go.Proofs.YtofjabejkcicjaaK
open Go.RowKit
set_option linter.unusedSimpArgs false
set_option linter.unusedVariables false
/-! Which blocks of memory have turned; rows of cells by a function. -/
structure Chg (S : List Nat) (w w' : World) : Prop where
  os : w'.os = w.os
  tape : w'.tape = w.tape
  output : w'.output = w.output
  size : w.heap.size ≤ w'.heap.size
  block : ∀ k, k < w.heap.size → k ∉ S → w'.heap[k]? = w.heap[k]?
section
variable {S S' : List Nat} {w w' w2 : World}
theorem Chg.refl (S : List Nat) (w : World) : Chg S w w := ⟨rfl, rfl, rfl, Nat.le_refl _, fun _ _ _ => rfl⟩
theorem Chg.trans (h : Chg S w w') (k : Chg S w' w2) : Chg S w w2 :=
  ⟨k.os.trans h.os, k.tape.trans h.tape, k.output.trans h.output, Nat.le_trans h.size k.size, fun i hi hn => (k.block i (Nat.lt_of_lt_of_le hi h.size) hn).trans (h.block i hi hn)⟩
theorem Chg.mono (h : Chg S w w') (hs : ∀ k ∈ S, k ∈ S') : Chg S' w w' := ⟨h.os, h.tape, h.output, h.size, fun k hk hn => h.block k hk (fun hm => hn (hs k hm))⟩
theorem Chg.grown {b : Nat} (h : w.grownBy w' (some b)) : Chg [b] w w' := ⟨h.os, h.tape, h.output, h.size, fun k hk hn => h.block k hk (fun e => hn (by injection e with e; simp [e]))⟩
theorem Chg.ofBelow (h : Below w.heap.size w w') : Chg S w w' := ⟨h.os, h.tape, h.output, h.size, fun k hk _ => h.block k hk⟩
theorem Chg.below {B : Nat} (h : Chg S w w') (hB : B ≤ w.heap.size) (hs : ∀ k ∈ S, B ≤ k) : Below B w w' :=
  ⟨h.os, h.tape, h.output, h.size, fun k hk => h.block k (by omega) (fun hm => by have := hs k hm; omega)⟩
theorem Chg.drew (h : Chg S w w') : Chg S w w'.drew := ⟨h.os, h.tape, h.output, h.size, h.block⟩
theorem Chg.alloc (h : Chg S w w') (o : Obj) : Chg S w (w'.alloc o) := h.trans (Chg.ofBelow ((Below.refl _ _).alloc (Nat.le_refl _) o))
theorem Chg.set (h : Chg S w w') (a : Addr) (hm : a.block ∈ S) (v : Value) : Chg S w (w'.setCell a v) :=
  h.trans ⟨rfl, rfl, rfl, by simp, fun k hk hn => Below.heap_setCell _ _ _ _ (fun e => hn (e ▸ hm))⟩
theorem Chg.sets {b : Nat} (hm : b ∈ S) : ∀ (vs : List Value) (o : Nat) {w' : World}, Chg S w w' → Chg S w (w'.setCells b o vs)
  | [], _, _, h => h
  | v :: r, o, w', h => Chg.sets hm r (o + 1) (h.set ⟨b, o, none⟩ hm v)
theorem Chg.at (h : Chg S w w') {k : Nat} {o : Obj} (hk : w.heap[k]? = some o) (hn : k ∉ S) : w'.heap[k]? = some o :=
  (h.block k (Array.getElem?_eq_some_iff.1 hk).1 hn).trans hk
theorem Chg.cell (h : Chg S w w') {a : Addr} {v : Value} (hk : w.cell? a = some v) (hn : a.block ∉ S) : w'.cell? a = some v :=
  (World.cell?_of_block (h.block _ (World.block_lt_of_cell? w _ hk) hn)).trans hk
end
/-- A row of N cells, that may be written, as f tells. -/
def Row (w : World) (b N : Nat) (f : Nat → Value) : Prop := b < w.heap.size ∧ ∀ j, j < N → w.cell? ⟨b, j, none⟩ = some (f j) ∧ w.frozen? ⟨b, j, none⟩ = false
section
variable {S : List Nat} {w w' : World} {b N : Nat} {f g : Nat → Value}
theorem Row.lt (h : Row w b N f) : b < w.heap.size := h.1
theorem Row.at (h : Row w b N f) (j : Nat) (hj : j < N) : w.cell? ⟨b, j, none⟩ = some (f j) := (h.2 j hj).1
theorem Row.fr (h : Row w b N f) (j : Nat) (hj : j < N) : w.frozen? ⟨b, j, none⟩ = false := (h.2 j hj).2
theorem Row.congr (h : Row w b N f) (e : ∀ j, j < N → f j = g j) : Row w b N g := ⟨h.1, fun j hj => ⟨e j hj ▸ h.at j hj, h.fr j hj⟩⟩
theorem Row.chg (h : Row w b N f) (hc : Chg S w w') (hb : b ∉ S) : Row w' b N f :=
  ⟨Nat.lt_of_lt_of_le h.1 hc.size, fun j hj => ⟨(World.cell?_of_block (hc.block b h.1 hb)).trans (h.at j hj), (World.frozen?_of_block (hc.block b h.1 hb)).trans (h.fr j hj)⟩⟩
theorem Row.below (h : Row w b N f) (hc : Below w.heap.size w w') : Row w' b N f := h.chg (S := []) (Chg.ofBelow hc) (by simp)
theorem Row.set (h : Row w b N f) (j : Nat) (v : Value) : Row (w.setCell ⟨b, j, none⟩ v) b N (fun i => if i = j then v else f i) := by
  refine ⟨Nat.lt_of_lt_of_le h.1 (by simp), fun i hi => ⟨?_, (World.frozen?_setCell w ⟨b, j, none⟩ ⟨b, i, none⟩ v).trans (h.fr i hi)⟩⟩
  show _ = some (if i = j then v else f i)
  by_cases e : i = j
  · subst e
    rw [if_pos rfl]
    exact World.cell?_setCell_same _ _ _ (h.at i hi)
  · rw [if_neg e, World.cell?_setCell_other _ _ _ _ (by intro hh; injection hh; omega)]
    exact h.at i hi
theorem Row.sets : ∀ (vs : List Value) (o : Nat) {w : World} {f : Nat → Value}, Row w b N f → Row (w.setCells b o vs) b N (fun i => if o ≤ i ∧ i < o + vs.length then vs.getD (i - o) default else f i)
  | [], o, w, f, h => by
    refine h.congr fun j hj => ?_
    show f j = if o ≤ j ∧ j < o + ([] : List Value).length then _ else f j
    rw [if_neg (by intro hh; have := hh.2; simp at this; omega)]
  | v :: r, o, w, f, h => by
    have h2 := Row.sets r (o + 1) (h.set o v)
    refine Row.congr h2 fun j hj => ?_
    show (if o + 1 ≤ j ∧ j < o + 1 + r.length then r.getD (j - (o + 1)) default else if j = o then v else f j) = if o ≤ j ∧ j < o + (v :: r).length then (v :: r).getD (j - o) default else f j
    by_cases e : j = o
    · subst e
      rw [if_neg (by omega), if_pos rfl, if_pos (by simp)]
      simp
    · by_cases e2 : o + 1 ≤ j ∧ j < o + 1 + r.length
      · rw [if_pos e2, if_pos (by simp; omega)]
        obtain ⟨k, rfl⟩ : ∃ k, j = o + 1 + k := ⟨j - (o + 1), by omega⟩
        rw [show o + 1 + k - (o + 1) = k from by omega, show o + 1 + k - o = k + 1 from by omega]
        simp
      · rw [if_neg e2, if_neg e, if_neg (by simp; omega)]
theorem Row.range (h : Row w b N f) (o : Nat) (L : List Value) (ho : o + L.length ≤ N) (hL : ∀ k, k < L.length → L[k]? = some (f (o + k))) : w.rangeAt b o L := by
  intro j v hv
  have hj := (List.getElem?_eq_some_iff.1 hv).1
  rw [hL j hj] at hv
  rw [← hv]
  exact h.at (o + j) (by omega)
theorem Row.there (h : Row w b N f) (o n : Nat) (ho : o + n ≤ N) : w.there b o n := fun j hj => ⟨by rw [h.at (o + j) (by omega)]; rfl, h.fr (o + j) (by omega)⟩
theorem Row.new (w : World) (cs : Array Value) (T : TypeId) (hf : ∀ j, j < cs.size → cs[j]? = some (f j)) : Row (w.alloc (.cells cs T)) w.heap.size cs.size f := by
  refine ⟨by simp, fun j hj => ?_⟩
  have hh := heap_alloc_new w (.cells cs T)
  exact ⟨(cell_of_row _ _ j _ _ _ hh).trans (hf j hj), frozenP hh j⟩
theorem Row.ofHeap {cs : Array Value} {T : TypeId} (hh : w.heap[b]? = some (.cells cs T (0, 0))) (hf : ∀ j, j < cs.size → cs[j]? = some (f j)) : Row w b cs.size f :=
  ⟨(Array.getElem?_eq_some_iff.1 hh).1, fun j hj => ⟨(cell_of_row _ _ j _ _ _ hh).trans (hf j hj), by simp [World.frozen?, hh]⟩⟩
end
/-! A chip's blocks: 8 pages of 258 bytes, next, bad. -/
def blkV (M : Nat → Nat → Nat → UInt8) (nx : Nat → Int) (bd : Nat → Bool) (j : Nat) : Value :=
  if j % 2066 < 2064 then encB (M (j / 2066) (j % 2066 / 258) (j % 2066 % 258)) else if j % 2066 = 2064 then .int .i64 (nx (j / 2066)) else .bool (bd (j / 2066))
theorem pg1 (p i : Nat) (hp : p < 8) (hi : i < 258) : 258 * p + i < 2064 := by omega
theorem pg2 (p i : Nat) (hi : i < 258) : (258 * p + i) / 258 = p := by omega
theorem pg3 (p i : Nat) (hi : i < 258) : (258 * p + i) % 258 = i := by omega
theorem pg4 (b r : Nat) (hr : r < 2066) : (b * 2066 + r) / 2066 = b := by omega
theorem pg5 (b r : Nat) (hr : r < 2066) : (b * 2066 + r) % 2066 = r := by omega
/-- Each cell of a block's pages has its place. -/
theorem pg_of (j : Nat) (h : j % 2066 < 2064) : ∃ b p i, p < 8 ∧ i < 258 ∧ j = b * 2066 + (258 * p + i) := by
  refine ⟨j / 2066, j % 2066 / 258, j % 2066 % 258, ?_, Nat.mod_lt _ (by omega), ?_⟩
  · omega
  · have := Nat.div_add_mod (j % 2066) 258
    have := Nat.div_add_mod j 2066
    omega
section
variable (M : Nat → Nat → Nat → UInt8) (nx : Nat → Int) (bd : Nat → Bool)
theorem blkV_at (b p i : Nat) (hp : p < 8) (hi : i < 258) : blkV M nx bd (b * 2066 + (258 * p + i)) = encB (M b p i) := by
  have h := pg1 p i hp hi
  unfold blkV
  rw [pg5 b _ (by omega), pg4 b _ (by omega), if_pos h, pg2 p i hi, pg3 p i hi]
theorem blkV_page (b p i : Nat) (hp : p < 8) (hi : i < 258) : blkV M nx bd (b * 2066 + 258 * p + i) = encB (M b p i) := by
  rw [Nat.add_assoc]
  exact blkV_at M nx bd b p i hp hi
theorem blkV_next (b : Nat) : blkV M nx bd (b * 2066 + 2064) = .int .i64 (nx b) := by
  unfold blkV
  rw [if_neg (by omega), if_pos (by omega), show (b * 2066 + 2064) / 2066 = b from by omega]
theorem blkV_bad (b : Nat) : blkV M nx bd (b * 2066 + 2065) = .bool (bd b) := by
  unfold blkV
  rw [if_neg (by omega), if_neg (by omega), show (b * 2066 + 2065) / 2066 = b from by omega]
def upd {α : Type} (f : Nat → α) (b : Nat) (v : α) (k : Nat) : α := if k = b then v else f k
def updP (M : Nat → Nat → Nat → UInt8) (b p : Nat) (g : Nat → UInt8) (b' p' i : Nat) : UInt8 := if b' = b ∧ p' = p then g i else M b' p' i
theorem blkV_set_next (b : Nat) (v : Int) (j : Nat) : (if j = b * 2066 + 2064 then .int .i64 v else blkV M nx bd j) = blkV M (upd nx b v) bd j := by
  unfold blkV upd
  by_cases e : j = b * 2066 + 2064
  · rw [if_pos e, if_neg (by omega), if_pos (by omega), if_pos (by omega)]
  · rw [if_neg e]
    by_cases e2 : j % 2066 < 2064
    · rw [if_pos e2, if_pos e2]
    · rw [if_neg e2, if_neg e2]
      by_cases e3 : j % 2066 = 2064
      · rw [if_pos e3, if_pos e3, if_neg (by omega)]
      · rw [if_neg e3, if_neg e3]
theorem blkV_set_bad (b : Nat) (v : Bool) (j : Nat) : (if j = b * 2066 + 2065 then .bool v else blkV M nx bd j) = blkV M nx (upd bd b v) j := by
  unfold blkV upd
  by_cases e : j = b * 2066 + 2065
  · rw [if_pos e, if_neg (by omega), if_neg (by omega), if_pos (by omega)]
  · rw [if_neg e]
    by_cases e2 : j % 2066 < 2064
    · rw [if_pos e2, if_pos e2]
    · rw [if_neg e2, if_neg e2]
      by_cases e3 : j % 2066 = 2064
      · rw [if_pos e3, if_pos e3]
      · rw [if_neg e3, if_neg e3, if_neg (by omega)]
theorem blkV_hi (M' : Nat → Nat → Nat → UInt8) (j : Nat) (h : ¬ j % 2066 < 2064) : blkV M nx bd j = blkV M' nx bd j := by
  unfold blkV
  rw [if_neg h, if_neg h]
theorem pg_ne (b p i b' p' i' : Nat) (hp : p < 8) (hi : i < 258) (hp' : p' < 8) (hi' : i' < 258) (h : b' * 2066 + (258 * p' + i') = b * 2066 + (258 * p + i)) : b' = b ∧ p' = p ∧ i' = i := by
  have h1 := pg1 p i hp hi
  have h2 := pg1 p' i' hp' hi'
  have hb : b' = b := by
    have := congrArg (· / 2066) h
    rwa [pg4 _ _ (by omega), pg4 _ _ (by omega)] at this
  subst hb
  have h3 : 258 * p' + i' = 258 * p + i := by omega
  have hq : p' = p := by
    have := congrArg (· / 258) h3
    rwa [pg2 _ _ hi', pg2 _ _ hi] at this
  subst hq
  exact ⟨rfl, rfl, by omega⟩
theorem blkV_set_byte (b p i : Nat) (hp : p < 8) (hi : i < 258) (v : UInt8) (j : Nat) : (if j = b * 2066 + (258 * p + i) then encB v else blkV M nx bd j) = blkV (updP M b p (upd (M b p) i v)) nx bd j := by
  by_cases e2 : j % 2066 < 2064
  · obtain ⟨b', p', i', hp', hi', rfl⟩ := pg_of j e2
    rw [blkV_at _ _ _ _ _ _ hp' hi', blkV_at _ _ _ _ _ _ hp' hi']
    unfold updP upd
    by_cases e : b' * 2066 + (258 * p' + i') = b * 2066 + (258 * p + i)
    · obtain ⟨rfl, rfl, rfl⟩ := pg_ne b p i b' p' i' hp hi hp' hi' e
      rw [if_pos rfl, if_pos ⟨rfl, rfl⟩, if_pos rfl]
    · rw [if_neg e]
      by_cases e3 : b' = b ∧ p' = p
      · obtain ⟨rfl, rfl⟩ := e3
        rw [if_pos ⟨rfl, rfl⟩, if_neg (fun hh => e (by rw [hh]))]
      · rw [if_neg e3]
  · rw [if_neg (by have := pg1 p i hp hi; omega)]
    exact blkV_hi _ _ _ _ _ e2
theorem blkV_set_page (b p : Nat) (hp : p < 8) (g : Nat → UInt8) (vs : List Value) (hl : vs.length = 258) (hv : ∀ i, i < 258 → vs.getD i default = encB (g i)) (j : Nat) :
    (if b * 2066 + 258 * p ≤ j ∧ j < b * 2066 + 258 * p + vs.length then vs.getD (j - (b * 2066 + 258 * p)) default else blkV M nx bd j) = blkV (updP M b p g) nx bd j := by
  rw [hl]
  by_cases e2 : j % 2066 < 2064
  · obtain ⟨b', p', i', hp', hi', rfl⟩ := pg_of j e2
    rw [blkV_at _ _ _ _ _ _ hp' hi', blkV_at _ _ _ _ _ _ hp' hi']
    unfold updP
    have h2 := pg1 p' i' hp' hi'
    by_cases e3 : b' = b ∧ p' = p
    · obtain ⟨rfl, rfl⟩ := e3
      rw [if_pos (by omega), if_pos ⟨rfl, rfl⟩, show b' * 2066 + (258 * p' + i') - (b' * 2066 + 258 * p') = i' from by omega]
      exact hv i' hi'
    · rw [if_neg e3, if_neg]
      rintro ⟨k1, k2⟩
      have hk : b' * 2066 + (258 * p' + i') = b * 2066 + (258 * p + (b' * 2066 + (258 * p' + i') - (b * 2066 + 258 * p))) := by omega
      obtain ⟨h4, h5, _⟩ := pg_ne b p _ b' p' i' hp (by omega) hp' hi' hk
      exact e3 ⟨h4, h5⟩
  · rw [if_neg]
    · exact blkV_hi _ _ _ _ _ e2
    · rintro ⟨k1, k2⟩
      obtain ⟨r, rfl⟩ : ∃ r, j = b * 2066 + (258 * p + r) := ⟨j - (b * 2066 + 258 * p), by omega⟩
      have := pg1 p r hp (by omega)
      rw [pg5 b _ (by omega)] at e2
      omega
end
end Go.Proofs.YtofjabejkcicjaaK

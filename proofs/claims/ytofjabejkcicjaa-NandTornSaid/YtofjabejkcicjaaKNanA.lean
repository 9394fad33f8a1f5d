import Derived.Test.YtofjabejkcicjaaKBox
import Derived.Test.YtofjabejkcicjaaRows
import Derived.Lib.SmallJoins
namespace Go.Proofs.YtofjabejkcicjaaK
open Go.RowKit
set_option linter.unusedSimpArgs false
set_option linter.unusedVariables false
/-! Power, and what a chip tells of itself. -/
theorem cellP {w : World} {b : Nat} {cs : Array Value} {T : TypeId} {fz : Nat × Nat} (h : w.heap[b]? = some (.cells cs T fz)) (i : Nat) : w.cell? ⟨b, i, none⟩ = cs[i]? := cell_of_row w b i cs T fz h
theorem frozenP {w : World} {b : Nat} {cs : Array Value} {T : TypeId} (h : w.heap[b]? = some (.cells cs T (0, 0))) (i : Nat) : w.frozen? ⟨b, i, none⟩ = false := by simp [World.frozen?, h]
theorem grownP (w : World) (b j : Nat) (u : Value) : w.grownBy (w.setCell ⟨b, j, none⟩ u) (some b) :=
  ⟨rfl, rfl, rfl, by simp, fun k hk hne => Below.heap_setCell _ _ _ _ (fun e => hne (by rw [e]))⟩
theorem grownT {w w1 w2 : World} {row : Option Nat} (h : w.grownBy w1 row) (k : w1.grownBy w2 row) : w.grownBy w2 row :=
  ⟨k.os.trans h.os, k.tape.trans h.tape, k.output.trans h.output, Nat.le_trans h.size k.size, fun i hi hne => (k.block i (Nat.lt_of_lt_of_le hi h.size) hne).trans (h.block i hi hne)⟩
def Pwr (w : World) (pb : Nat) (off : Bool) (aft keep : Int) : Prop := w.heap[pb]? = some (.cells #[.bool off, .int .i64 aft, .int .i64 keep] 74 (0, 0))
def Chp (w : World) (cb pb : Nat) (bl : Value) (dead out : Bool) (w1 : Value) (n1 : Int) (w2 : Value) (n2 cnt : Int) : Prop :=
  w.heap[cb]? = some (.cells #[.pointer (some ⟨pb, 0, none⟩), bl, .bool dead, .bool out, w1, .int .i64 n1, w2, .int .i64 n2, .int .i64 cnt] 45 (0, 0))
set_option maxHeartbeats 4000000 in
theorem newPower_any (w : World) : Calls Try.prog 10 #[] w fun e w' => e = .returned (.pointer (some ⟨w.heap.size, 0, none⟩)) ∧ Pwr w' w.heap.size false (-1) 0 ∧ Below w.heap.size w w' := by
  go_enter Try.func10, Try.ntmps10
  go_wp2_with fail
  go_ret
  exact ⟨rfl, heap_alloc_new w _, (Bx.here w _).below⟩
set_option maxHeartbeats 4000000 in
theorem off_any (pb : Nat) (off : Bool) (aft keep : Int) (w : World) (h : Pwr w pb off aft keep) : Calls Try.prog 18 #[.pointer (some ⟨pb, 0, none⟩)] w fun e w' => e = .returned (.bool off) ∧ w = w' := by
  have c0 := cellP h 0
  clear h
  go_enter Try.func18, Try.ntmps18
  go_wp2_with fail
  go_ret
  exact ⟨rfl, rfl⟩
def pwOff (off : Bool) (aft : Int) : Bool := if aft < 0 then off else aft == 0
def pwAft (aft : Int) : Int := if aft < 0 then aft else aft - 1
def pwEnds (aft : Int) : Bool := aft == 0
set_option maxHeartbeats 4000000 in
theorem ends_any (pb : Nat) (off : Bool) (aft keep : Int) (w : World) (h : Pwr w pb off aft keep) (hb : -1 ≤ aft) (hb2 : aft ≤ 9223372036854775807) : Calls Try.prog 39 #[.pointer (some ⟨pb, 0, none⟩)] w fun e w' => e = .returned (.bool (pwEnds aft)) ∧ Pwr w' pb (pwOff off aft) (pwAft aft) keep ∧ w.grownBy w' (some pb) := by
  have H := Lib.hid h
  have c0 := cellP h 0
  have c1 := cellP h 1
  have f0 := frozenP h 0
  have f1 := frozenP h 1
  clear h
  by_cases hn : aft < 0
  · have h1 : pwEnds aft = false := beq_eq_false_iff_ne.2 (by omega)
    have h2 : pwOff off aft = off := if_pos hn
    have h3 : pwAft aft = aft := if_pos hn
    rw [h1, h2, h3]
    clear h1 h2 h3
    go_enter Try.func39, Try.ntmps39
    go_wp2_with fail
    go_ret
    exact ⟨rfl, H.out, World.grownBy.refl _ _⟩
  · have h2 : pwOff off aft = (aft == 0) := if_neg hn
    have h3 : pwAft aft = aft - 1 := if_neg hn
    rw [h2, h3]
    clear h2 h3
    have hw : IntKind.i64.wrap (aft - 1) = aft - 1 := by rw [IntKind.wrap_i64]; omega
    go_enter Try.func39, Try.ntmps39
    go_wp2_with fail
    go_ret
    exact ⟨rfl, Go.Joins.block_setCell (Go.Joins.block_setCell H.out _) _, grownT (grownP w pb 0 _) (grownP _ pb 1 _)⟩
set_option maxHeartbeats 4000000 in
theorem live_any (cb pb : Nat) (bl : Value) (dead out : Bool) (w1 : Value) (n1 : Int) (w2 : Value) (n2 cnt : Int) (w : World) (h : Chp w cb pb bl dead out w1 n1 w2 n2 cnt) : Calls Try.prog 24 #[.pointer (some ⟨cb, 0, none⟩)] w fun e w' => e = .returned (.bool (!dead && !out)) ∧ w = w' := by
  have c2 := cellP h 2
  have c3 := cellP h 3
  clear h
  rcases dead with _ | _
  · go_enter Try.func24, Try.ntmps24
    go_wp2_with fail
    go_ret
    exact ⟨rfl, rfl⟩
  · go_enter Try.func24, Try.ntmps24
    go_wp2_with fail
    go_ret
    exact ⟨rfl, rfl⟩
set_option maxHeartbeats 4000000 in
theorem count_any (cb pb : Nat) (bl : Value) (dead out : Bool) (w1 : Value) (n1 : Int) (w2 : Value) (n2 cnt : Int) (w : World) (h : Chp w cb pb bl dead out w1 n1 w2 n2 cnt) : Calls Try.prog 15 #[.pointer (some ⟨cb, 0, none⟩)] w fun e w' => e = .returned (.int .i64 cnt) ∧ w = w' := by
  have c8 := cellP h 8
  clear h
  go_enter Try.func15, Try.ntmps15
  go_wp2_with fail
  go_ret
  exact ⟨rfl, rfl⟩
set_option maxHeartbeats 4000000 in
theorem there_any (cb pb : Nat) (A : Option Addr) (n c : Nat) (dead out : Bool) (w1 : Value) (n1 : Int) (w2 : Value) (n2 cnt : Int) (b : Int) (w : World) (h : Chp w cb pb (.slice A n c) dead out w1 n1 w2 n2 cnt) : Calls Try.prog 33 #[.pointer (some ⟨cb, 0, none⟩), .int .i64 b] w fun e w' => e = .returned (.bool (decide (0 ≤ b) && decide (b < n))) ∧ w = w' := by
  have c1 := cellP h 1
  clear h
  rcases q1 : decide (0 ≤ b) with _ | _
  · go_enter Try.func33, Try.ntmps33
    go_wp2_with fail
    go_ret
    exact ⟨rfl, rfl⟩
  · go_enter Try.func33, Try.ntmps33
    go_wp2_with fail
    go_ret
    exact ⟨rfl, rfl⟩
end Go.Proofs.YtofjabejkcicjaaK

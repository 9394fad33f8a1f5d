import Derived.Test.YtofjabejkcicjaaKChg
import Derived.Test.YtofjabejkcicjaaKShelf
import Derived.Deep.QuietTactic
namespace Go.Proofs.YtofjabejkcicjaaK
open Go.RowKit
set_option linter.unusedSimpArgs false
set_option linter.unusedVariables false
/-! Numbers in a slice; fate.act. -/
def Ints (w : World) (v : Value) (L : List Int) (S : List Nat) : Prop :=
  ∃ A c, v = .slice A L.length c ∧ L.length ≤ 9223372036854775807 ∧ (L = [] ∨ ∃ b off, A = some ⟨b, off, none⟩ ∧ b ∉ S ∧ ∀ j x, L[j]? = some x → w.cell? ⟨b, off + j, none⟩ = some (.int .i64 x))
theorem Ints.nil (w : World) (A : Option Addr) (c : Nat) (S : List Nat) : Ints w (.slice A 0 c) [] S := ⟨A, c, rfl, by simp, .inl rfl⟩
theorem Ints.chg {w w' : World} {v : Value} {L : List Int} {S S' : List Nat} (h : Ints w v L S) (hc : Chg S' w w') (hs : ∀ k ∈ S', k ∈ S) : Ints w' v L S := by
  obtain ⟨A, c, h1, h2, h3⟩ := h
  refine ⟨A, c, h1, h2, h3.imp id ?_⟩
  rintro ⟨b, off, h4, h5, h6⟩
  exact ⟨b, off, h4, h5, fun j x hx => hc.cell (h6 j x hx) (fun hm => h5 (hs b hm))⟩
theorem Ints.mono {w : World} {v : Value} {L : List Int} {S S' : List Nat} (h : Ints w v L S) (hs : ∀ k ∈ S', k ∈ S) : Ints w v L S' := by
  obtain ⟨A, c, h1, h2, h3⟩ := h
  refine ⟨A, c, h1, h2, h3.imp id ?_⟩
  rintro ⟨b, off, h4, h5, h6⟩
  exact ⟨b, off, h4, fun hm => h5 (hs b hm), h6⟩
theorem Ints.drewN {w : World} {v : Value} {L : List Int} {S : List Nat} (h : Ints w v L S) (q : Nat) : Ints (w.drewN q) v L S :=
  h.chg (S' := []) ⟨rfl, rfl, rfl, Nat.le_refl _, fun _ _ _ => rfl⟩ (by simp)
theorem Chg.drewN {S : List Nat} {w w' : World} (h : Chg S w w') (q : Nat) : Chg S w (w'.drewN q) := ⟨h.os, h.tape, h.output, h.size, h.block⟩
theorem contains_any {w : World} {v : Value} {L : List Int} {S : List Nat} (h : Ints w v L S) (x : Int) : Calls Try.prog 34 #[v, .int .i64 x] w fun e w' => e = .returned (.bool (L.contains x)) ∧ w = w' := by
  obtain ⟨A, c, rfl, h2, h3⟩ := h
  rcases h3 with rfl | ⟨b, off, rfl, h5, h6⟩
  · refine (Try.slices_Contains_int_empty A c x w).mono ?_
    rintro e w' ⟨rfl, rfl⟩
    exact ⟨rfl, rfl⟩
  · refine (Try.slices_Contains_int b off L.length c L x w (Nat.le_refl _) h2 (fun j hj => ?_)).mono ?_
    · refine h6 j _ ?_
      rw [List.getElem?_eq_getElem hj]
      simp [hj]
    · rintro e w' ⟨rfl, rfl⟩
      rw [List.take_length]
      exact ⟨rfl, rfl⟩
set_option maxHeartbeats 4000000 in
theorem act_any (cb k : Nat) (cs : Array Value) (T : TypeId) (v : Value) (L : List Int) (S : List Nat) (n : Int) (w : World) (h : w.heap[cb]? = some (.cells cs T (0, 0))) (hk : cs[k]? = some v) (hn : cs[k + 1]? = some (.int .i64 n)) (hL : Ints w v L S) (hS : cb ∈ S)
    (h0 : 0 ≤ n) (h1 : n < 4611686018427387904) :
    Calls Try.prog 38 #[.pointer (some ⟨cb, k, none⟩)] w fun e w' => e = .returned (.bool (L.contains n)) ∧ w'.heap[cb]? = some (.cells (cs.setIfInBounds (k + 1) (.int .i64 (n + 1))) T (0, 0)) ∧ Chg [cb] w w' := by
  have c0 : w.cell? ⟨cb, k, none⟩ = some v := (cellP h k).trans hk
  have c1 : w.cell? ⟨cb, k + 1, none⟩ = some (.int .i64 n) := (cellP h (k + 1)).trans hn
  have f1 := frozenP h (k + 1)
  have hw : IntKind.i64.wrap (n + 1) = n + 1 := by rw [IntKind.wrap_i64]; omega
  have hw2 : IntKind.i64.wrap n = n := by rw [IntKind.wrap_i64]; omega
  have c2 : (w.setCell ⟨cb, k + 1, none⟩ (.int .i64 (n + 1))).cell? ⟨cb, k + 1, none⟩ = some (.int .i64 (n + 1)) := World.cell?_setCell_same _ _ _ c1
  have c3 : (w.setCell ⟨cb, k + 1, none⟩ (.int .i64 (n + 1))).cell? ⟨cb, k, none⟩ = some v := by
    rw [World.cell?_setCell_other _ _ _ _ (by intro hh; injection hh; omega)]
    exact c0
  have HC := Lib.hid (fun q : Nat => contains_any (Ints.drewN (hL.chg (S' := [cb]) ((Chg.refl [cb] w).set ⟨cb, k + 1, none⟩ (by simp) (.int .i64 (n + 1))) (by simpa using hS)) q) n)
  have HE := Lib.hid (Go.Joins.block_setCell (i := k + 1) h (.int .i64 (n + 1)))
  have HG := Lib.hid ((Chg.refl [cb] w).set ⟨cb, k + 1, none⟩ (by simp) (.int .i64 (n + 1)))
  clear h hk hn hL hS h0 h1
  go_enter Try.func38, Try.ntmps38
  go_wp2_with fail
  go_quiet ((go_at_call 34; exact Calls.quiet_of_same ((HC.out _).mono fun _ _ h => ⟨h.1, h.2.symm⟩)))
  go_wp2_with fail
  go_ret
  exact ⟨by simp, HE.out, HG.out.drewN _⟩
end Go.Proofs.YtofjabejkcicjaaK

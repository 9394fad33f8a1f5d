import Derived.Test.YtofjabejkcicjaaKNew
namespace Go.Proofs.YtofjabejkcicjaaK
open Go.RowKit
set_option linter.unusedSimpArgs false
set_option linter.unusedVariables false
/-! Fail, Die, Put. -/
theorem ints_own {w : World} {v : Value} {L : List Int} {S : List Nat} {base : Nat} (h : w.ownsRow base 3 1 v L.length (L.map (Value.int .i64))) (hl : L.length ≤ 9223372036854775807) (hS : ∀ k ∈ S, k < base) : Ints w v L S := by
  rcases h.2 with ⟨rfl, h0⟩ | ⟨g, cap, cur, rfl, hg, hh, hc, hm, hs, ht⟩
  · have : L = [] := List.length_eq_zero_iff.1 h0
    subst this
    exact Ints.nil _ _ _ _
  · refine ⟨_, _, rfl, hl, .inr ⟨g, 0, rfl, fun hm => by have := hS g hm; omega, fun j x hx => ?_⟩⟩
    rw [Nat.zero_add, cellP hh j]
    have hj := (List.getElem?_eq_some_iff.1 hx).1
    have h1 : (cur.toList.take (L.length * 1))[j]? = some (Value.int .i64 x) := by rw [ht, List.getElem?_map, hx]; rfl
    rw [List.getElem?_take_of_lt (by omega)] at h1
    simpa using h1
theorem clone_any {w : World} {v : Value} {L : List Int} {S S' : List Nat} (h : Ints w v L S') (hl : L.length ≤ 1000) (hS : ∀ k ∈ S, k < w.heap.size) : Calls Try.prog 36 #[v] w fun e w' => ∃ v', e = .returned v' ∧ Ints w' v' L S ∧ Below w.heap.size w w' := by
  obtain ⟨A, c, rfl, h2, h3⟩ := h
  by_cases e : L = []
  · subst e
    rcases A with _ | a
    · refine (Try.slices_Clone_int_nil 0 c w).mono ?_
      rintro e w' ⟨rfl, rfl⟩
      exact ⟨_, rfl, Ints.nil _ _ _ _, Below.refl _ _⟩
    · refine (Try.slices_Clone_int_zero a c w).mono ?_
      rintro e w' ⟨v', rfl, ho, hne, hb⟩
      exact ⟨_, rfl, ints_own (base := w.heap.size) (L := []) ho (by simp) hS, hb⟩
  · rcases h3 with h3 | ⟨b, off, rfl, h5, h6⟩
    · exact absurd h3 e
    · refine (Try.slices_Clone_int b off L.length c L w (Nat.le_refl _) (by omega) (fun j hj => ?_)).mono ?_
      · refine h6 j _ ?_
        rw [List.getElem?_eq_getElem hj]
        simp [hj]
      · rintro e w' ⟨v', rfl, ho, hne, hb⟩
        rw [List.take_length] at ho
        exact ⟨_, rfl, ints_own ho (by omega) hS, hb⟩
def failC (programs : Bool) (L : List Int) (c : Ch) : Ch := bif programs then { c with pw := L, pc := 0 } else { c with ww := L, wc := 0 }
set_option maxHeartbeats 8000000 in
theorem fail_any (S S' : List Nat) (pb cb rb : Nat) (c : Ch) (pg : Bool) (v : Value) (L : List Int) (w : World) (hC : ChW w S pb cb rb c) (hcr : cb ≠ rb) (hsc : cb ∈ S) (hL : Ints w v L S') (hl : L.length ≤ 1000) (hS : ∀ k ∈ S, k < w.heap.size) :
    Calls Try.prog 12 #[.pointer (some ⟨cb, 0, none⟩), .bool pg, v] w fun e w' => (∃ u, e = .returned u) ∧ ChW w' S pb cb rb (failC pg L c) ∧ Chg [cb] w w' := by
  obtain ⟨n, M, nx, bd, dead, out, pw, pc, ww, wc, cnt⟩ := c
  obtain ⟨v1, v2, hCh, hI1, hI2, hR⟩ := hC
  dsimp only at *
  have HC := Lib.hid (clone_any (S := S) hL hl hS)
  have HG := Lib.hid (fun w2 (v' : Value) (hb : Below w.heap.size w w2) (hI : Ints w2 v' L S) => (show
      Chp (w2.alloc (.cells #[v', .int .i64 0] 43)) cb pb (.slice (some ⟨rb, 0, none⟩) n n) dead out v1 pc v2 wc cnt ∧ Ints (w2.alloc (.cells #[v', .int .i64 0] 43)) v1 pw S ∧ Ints (w2.alloc (.cells #[v', .int .i64 0] 43)) v2 ww S ∧
      Ints (w2.alloc (.cells #[v', .int .i64 0] 43)) v' L S ∧ Row (w2.alloc (.cells #[v', .int .i64 0] 43)) rb (2066 * n) (blkV M nx bd) ∧ Chg [cb] w (w2.alloc (.cells #[v', .int .i64 0] 43)) from by
      have g : Chg [] w (w2.alloc (.cells #[v', .int .i64 0] 43)) := (Chg.ofBelow hb).alloc _
      exact ⟨g.at hCh (by simp), hI1.chg g (by simp), hI2.chg g (by simp), hI.chg (S' := []) ((Chg.refl _ _).alloc _) (by simp), hR.chg g (by simp), g.mono (by simp)⟩))
  have hlt : cb < w.heap.size := (Array.getElem?_eq_some_iff.1 hCh).1
  clear hCh hI1 hI2 hR hL hl hS
  rcases pg with _ | _
  · go_enter Try.func12, Try.ntmps12
    go_wp2_with (go_at_call 36; refine HC.out.mono ?_; rintro e w2 ⟨v', rfl, hI, hb⟩; have hq := HG.out w2 v' hb hI; obtain ⟨A, m, rfl, _⟩ := hI; have c6 := cellP hq.1 6; have c7 := cellP hq.1 7; have f6 := frozenP hq.1 6; have f7 := frozenP hq.1 7; have HQ := Lib.hid hq; clear hq hb)
    go_end0
    obtain ⟨hC3, hJ1, hJ2, hJ, hR3, g3⟩ := HQ.out
    have g4 := (g3.set ⟨cb, 6, none⟩ (by simp) (.slice A L.length m)).set ⟨cb, 7, none⟩ (by simp) (.int .i64 0)
    have g5 := ((Chg.refl [cb] (w2.alloc (.cells #[.slice A L.length m, .int .i64 0] 43))).set ⟨cb, 6, none⟩ (by simp) (.slice A L.length m)).set ⟨cb, 7, none⟩ (by simp) (.int .i64 0)
    exact ⟨⟨_, rfl⟩, ⟨_, _, Go.Joins.block_setCell (i := 7) (Go.Joins.block_setCell (i := 6) hC3 (.slice A L.length m)) (.int .i64 0), hJ1.chg g5 (by simpa using hsc), hJ.chg g5 (by simpa using hsc), hR3.chg g5 (by simpa using Ne.symm hcr)⟩, g4⟩
  · go_enter Try.func12, Try.ntmps12
    go_wp2_with (go_at_call 36; refine HC.out.mono ?_; rintro e w2 ⟨v', rfl, hI, hb⟩; have hq := HG.out w2 v' hb hI; obtain ⟨A, m, rfl, _⟩ := hI; have c6 := cellP hq.1 4; have c7 := cellP hq.1 5; have f6 := frozenP hq.1 4; have f7 := frozenP hq.1 5; have HQ := Lib.hid hq; clear hq hb)
    go_end0
    obtain ⟨hC3, hJ1, hJ2, hJ, hR3, g3⟩ := HQ.out
    have g4 := (g3.set ⟨cb, 4, none⟩ (by simp) (.slice A L.length m)).set ⟨cb, 5, none⟩ (by simp) (.int .i64 0)
    have g5 := ((Chg.refl [cb] (w2.alloc (.cells #[.slice A L.length m, .int .i64 0] 43))).set ⟨cb, 4, none⟩ (by simp) (.slice A L.length m)).set ⟨cb, 5, none⟩ (by simp) (.int .i64 0)
    exact ⟨⟨_, rfl⟩, ⟨_, _, Go.Joins.block_setCell (i := 5) (Go.Joins.block_setCell (i := 4) hC3 (.slice A L.length m)) (.int .i64 0), hJ.chg g5 (by simpa using hsc), hJ2.chg g5 (by simpa using hsc), hR3.chg g5 (by simpa using Ne.symm hcr)⟩, g4⟩
end Go.Proofs.YtofjabejkcicjaaK

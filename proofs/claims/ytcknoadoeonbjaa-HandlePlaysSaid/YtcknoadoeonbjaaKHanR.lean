import Derived.Test.YtcknoadoeonbjaaKHanL
namespace Go.Proofs.YtcknoadoeonbjaaK
open Go.RowKit
set_option linter.unusedSimpArgs false
set_option linter.unusedVariables false
/-- The reference's table at block b. -/
def RTbl (w : World) (b : Nat) (u : Nat → Bool) (n : Nat → Int) : Prop :=
  ∃ cs, w.heap[b]? = some (.cells cs 67 (0, 0)) ∧ cs.size = 14 ∧ ∀ i, i < 6 → cs[i + 1]? = some (.bool (u i)) ∧ cs[7 + (i + 1)]? = some (.int .i64 (n i))
theorem RTbl.below {w w1 : World} {b : Nat} {u : Nat → Bool} {n : Nat → Int} (h : RTbl w b u n) (hb : Below w.heap.size w w1) : RTbl w1 b u n := by
  obtain ⟨cs, h1, h2⟩ := h
  exact ⟨cs, (hb.block b (Array.getElem?_eq_some_iff.1 h1).1).trans h1, h2⟩
theorem RTbl.grown {w w1 : World} {b b2 : Nat} {u : Nat → Bool} {n : Nat → Int} (h : RTbl w b u n) (hg : w.grownBy w1 (some b2)) (hne : b ≠ b2) : RTbl w1 b u n := by
  obtain ⟨cs, h1, h2⟩ := h
  exact ⟨cs, (hg.block b (Array.getElem?_eq_some_iff.1 h1).1 (by simpa using hne)).trans h1, h2⟩
theorem RTbl.cell0 {w : World} {b : Nat} {u : Nat → Bool} {n : Nat → Int} (h : RTbl w b u n) (i : Nat) (hi : i < 6) : w.cell? ⟨b, i + 1, none⟩ = some (.bool (u i)) := by
  obtain ⟨cs, h1, h2, h3⟩ := h
  rw [cell_of_row w b _ cs _ _ h1]; exact (h3 i hi).1
theorem RTbl.cell1 {w : World} {b : Nat} {u : Nat → Bool} {n : Nat → Int} (h : RTbl w b u n) (i : Nat) (hi : i < 6) : w.cell? ⟨b, 7 + (i + 1), none⟩ = some (.int .i64 (n i)) := by
  obtain ⟨cs, h1, h2, h3⟩ := h
  rw [cell_of_row w b _ cs _ _ h1]; exact (h3 i hi).2
theorem RTbl.frozen {w : World} {b : Nat} {u : Nat → Bool} {n : Nat → Int} (h : RTbl w b u n) (i : Nat) : w.frozen? ⟨b, i, none⟩ = false := by
  obtain ⟨cs, h1, h2, h3⟩ := h
  simp [World.frozen?, h1]
theorem RTbl.put0 {w : World} {b : Nat} {u : Nat → Bool} {n : Nat → Int} (h : RTbl w b u n) (i : Nat) (hi : i < 6) (v : Bool) : RTbl (w.setCell ⟨b, i + 1, none⟩ (.bool v)) b (put u i v) n := by
  obtain ⟨cs, h1, h2, h3⟩ := h
  refine ⟨cs.setIfInBounds (i + 1) (.bool v), heap_setCell_same _ b _ _ _ _ h1, by simp [h2], fun j hj => ?_⟩
  have hs := h3 j hj
  unfold put
  have e3 : ¬ i + 1 = 7 + (j + 1) := by omega
  by_cases e : j = i
  · subst e
    simp [Array.getElem?_setIfInBounds, h2, hs.2, show j < 13 from by omega]
  · have e1 : ¬ i = j := fun h => e h.symm
    simp [Array.getElem?_setIfInBounds, h2, e, e1, e3, hs]
theorem RTbl.put1 {w : World} {b : Nat} {u : Nat → Bool} {n : Nat → Int} (h : RTbl w b u n) (i : Nat) (hi : i < 6) (v : Int) : RTbl (w.setCell ⟨b, 7 + (i + 1), none⟩ (.int .i64 v)) b u (put n i v) := by
  obtain ⟨cs, h1, h2, h3⟩ := h
  refine ⟨cs.setIfInBounds (7 + (i + 1)) (.int .i64 v), heap_setCell_same _ b _ _ _ _ h1, by simp [h2], fun j hj => ?_⟩
  have hs := h3 j hj
  unfold put
  have e3 : ¬ 7 + (i + 1) = j + 1 := by omega
  by_cases e : j = i
  · subst e
    simp [Array.getElem?_setIfInBounds, h2, hs.1, e3]
    omega
  · have e1 : ¬ i = j := fun h => e h.symm
    have e4 : ¬ 7 + (i + 1) = 7 + (j + 1) := by omega
    simp [Array.getElem?_setIfInBounds, h2, e, e1, e3, hs]
theorem rget_none (b : Nat) (u : Nat → Bool) (n : Nat → Int) (h : Int) (w : World) (hT : RTbl w b u n) (hn : h < 1 ∨ 6 < h ∨ ∃ i : Nat, i < 6 ∧ h = (i : Int) + 1 ∧ u i = false) :
    Calls Try.prog 39 #[.pointer (some ⟨b, 0, none⟩), .int .i64 h] w fun e w' => e = .returned (.tuple #[.int .i64 0, .int .i64 66]) ∧ w = w' := by
  by_cases h1 : h < 1
  · clear hn hT
    go_enter Try.func39, Try.ntmps39
    go_wp2
    go_ret2
    exact ⟨rfl, rfl⟩
  by_cases h6 : 6 < h
  · clear hn hT
    go_enter Try.func39, Try.ntmps39
    go_wp2
    go_ret2
    exact ⟨rfl, rfl⟩
  obtain ⟨i, hi, rfl, hu⟩ : ∃ i : Nat, i < 6 ∧ h = (i : Int) + 1 ∧ u i = false := by
    rcases hn with e | e | e
    · exact absurd e h1
    · exact absurd e h6
    · exact e
  have hc := hT.cell0 i hi
  rw [hu] at hc
  have hi7 : (i : Int) + 1 < 7 := by omega
  clear hn hT hu h1 h6
  go_enter Try.func39, Try.ntmps39
  go_wp2
  go_ret2
  exact ⟨rfl, rfl⟩
theorem rget_some (b : Nat) (u : Nat → Bool) (n : Nat → Int) (i : Nat) (h : Int) (w : World) (hT : RTbl w b u n) (hi : i < 6) (hh : h = (i : Int) + 1) (hu : u i = true) :
    Calls Try.prog 39 #[.pointer (some ⟨b, 0, none⟩), .int .i64 h] w fun e w' => e = .returned (.tuple #[.int .i64 (n i), .int .i64 0]) ∧ w = w' := by
  subst hh
  have hc := hT.cell0 i hi
  have hc1 := hT.cell1 i hi
  rw [hu] at hc
  have hi7 : (i : Int) + 1 < 7 := by omega
  clear hT hu
  go_enter Try.func39, Try.ntmps39
  go_wp2
  go_ret2
  exact ⟨rfl, rfl⟩
theorem rclose_none (b : Nat) (u : Nat → Bool) (n : Nat → Int) (h : Int) (w : World) (hT : RTbl w b u n) (hn : h < 1 ∨ 6 < h ∨ ∃ i : Nat, i < 6 ∧ h = (i : Int) + 1 ∧ u i = false) :
    Calls Try.prog 36 #[.pointer (some ⟨b, 0, none⟩), .int .i64 h] w fun e w' => e = .returned (.int .i64 66) ∧ w = w' := by
  by_cases h1 : h < 1
  · clear hn hT
    go_enter Try.func36, Try.ntmps36
    go_wp2
    go_ret
    exact ⟨rfl, rfl⟩
  by_cases h6 : 6 < h
  · clear hn hT
    go_enter Try.func36, Try.ntmps36
    go_wp2
    go_ret
    exact ⟨rfl, rfl⟩
  obtain ⟨i, hi, rfl, hu⟩ : ∃ i : Nat, i < 6 ∧ h = (i : Int) + 1 ∧ u i = false := by
    rcases hn with e | e | e
    · exact absurd e h1
    · exact absurd e h6
    · exact e
  have hc := hT.cell0 i hi
  rw [hu] at hc
  have hi7 : (i : Int) + 1 < 7 := by omega
  clear hn hT hu h1 h6
  go_enter Try.func36, Try.ntmps36
  go_wp2
  go_ret
  exact ⟨rfl, rfl⟩
theorem rclose_some (b : Nat) (u : Nat → Bool) (n : Nat → Int) (i : Nat) (h : Int) (w : World) (hT : RTbl w b u n) (hi : i < 6) (hh : h = (i : Int) + 1) (hu : u i = true) :
    Calls Try.prog 36 #[.pointer (some ⟨b, 0, none⟩), .int .i64 h] w fun e w' => e = .returned (.int .i64 0) ∧ RTbl w' b (put u i false) n ∧ w.grownBy w' (some b) := by
  subst hh
  have hc := hT.cell0 i hi
  have hf := hT.frozen (i + 1)
  have hp := hT.put0 i hi false
  rw [hu] at hc
  have hi7 : (i : Int) + 1 < 7 := by omega
  clear hT hu
  go_enter Try.func36, Try.ntmps36
  go_wp2
  go_ret
  exact ⟨rfl, hp, grown_set _ b _ _⟩
theorem ropen_any (b : Nat) (u : Nat → Bool) (n : Nat → Int) (x : Int) (i : Nat) (w : World) (hT : RTbl w b u n) (hF : Free u i) (hi : i < 6) :
    Calls Try.prog 37 #[.pointer (some ⟨b, 0, none⟩), .int .i64 x] w fun e w' => e = .returned (.tuple #[.int .i64 ((i : Int) + 1), .int .i64 0]) ∧ RTbl w' b (put u i true) (put n i x) ∧ w.grownBy w' (some b) := by
  have HF := Lib.hid hF
  clear hF
  go_enter Try.func37, Try.ntmps37
  go_wp2
  go_loop [6] (fun v => ∃ j : Nat, j ≤ i ∧ v = .int .i64 ((j : Int) + 1)) (fun v => 7 - (intOf v).toNat)
  case atStart => exact ⟨0, Nat.zero_le _, rfl⟩
  case round =>
    obtain ⟨j, hj, rfl⟩ := hrel
    have hcj := hT.cell0 j (by omega)
    have h1 : (j : Int) + 1 < 7 := by omega
    by_cases hji : j < i
    · rw [HF.out.2.1 j hji] at hcj
      go_wp2
      go_round
      case rel => exact ⟨j + 1, by omega, by go_num⟩
      case measure => simp [intOf]; omega
    · obtain rfl : j = i := by omega
      rw [HF.out.2.2 hi] at hcj
      have hf := hT.frozen (j + 1)
      have hp := hT.put0 j hi true
      have hc1 := hp.cell1 j hi
      have hf1 := hp.frozen (7 + (j + 1))
      have hp1 := hp.put1 j hi x
      clear hT hp
      go_wp2
      go_ret2
      exact ⟨rfl, hp1, grown_trans (grown_set _ b _ _) (grown_set _ b _ _)⟩
theorem ropen_full (b : Nat) (u : Nat → Bool) (n : Nat → Int) (x : Int) (w : World) (hT : RTbl w b u n) (hF : Free u 6) :
    Calls Try.prog 37 #[.pointer (some ⟨b, 0, none⟩), .int .i64 x] w fun e w' => e = .returned (.tuple #[.int .i64 0, .int .i64 67]) ∧ w = w' := by
  have HF := Lib.hid hF
  clear hF
  go_enter Try.func37, Try.ntmps37
  go_wp2
  go_loop [6] (fun v => ∃ j : Nat, j ≤ 6 ∧ v = .int .i64 ((j : Int) + 1)) (fun v => 7 - (intOf v).toNat)
  case atStart => exact ⟨0, Nat.zero_le _, rfl⟩
  case round =>
    obtain ⟨j, hj, rfl⟩ := hrel
    by_cases hji : j < 6
    · have hcj := hT.cell0 j (by omega)
      have h1 : (j : Int) + 1 < 7 := by omega
      rw [HF.out.2.1 j hji] at hcj
      go_wp2
      go_round
      case rel => exact ⟨j + 1, by omega, by go_num⟩
      case measure => simp [intOf]; omega
    · obtain rfl : j = 6 := by omega
      go_wp2
      go_ret2
      exact ⟨rfl, rfl⟩
theorem ruses_any (b : Nat) (u : Nat → Bool) (n : Nat → Int) (x : Int) (i : Nat) (w : World) (hT : RTbl w b u n) (hF : Seeks u n x i) :
    Calls Try.prog 41 #[.pointer (some ⟨b, 0, none⟩), .int .i64 x] w fun e w' => e = .returned (.bool (decide (i < 6))) ∧ w = w' := by
  have HF := Lib.hid hF
  have hi6 := hF.1
  clear hF
  go_enter Try.func41, Try.ntmps41
  go_wp2
  go_loop [5] (fun v => ∃ j : Nat, j ≤ i ∧ v = .int .i64 ((j : Int) + 1)) (fun v => 7 - (intOf v).toNat)
  case atStart => exact ⟨0, Nat.zero_le _, rfl⟩
  case round =>
    obtain ⟨j, hj, rfl⟩ := hrel
    by_cases h6 : j < 6
    · have hcj := hT.cell0 j (by omega)
      have hcn := hT.cell1 j (by omega)
      have h1 : (j : Int) + 1 < 7 := by omega
      by_cases hji : j < i
      · have hno := HF.out.2.1 j hji
        by_cases hu : u j = true
        · have hx : (n j == x) = false := by
            rw [beq_eq_false_iff_ne]; intro e; exact hno ⟨hu, e⟩
          rw [hu] at hcj
          clear hno hu
          go_wp2
          go_round
          case rel => exact ⟨j + 1, by omega, by go_num⟩
          case measure => simp [intOf]; omega
        · have hu : u j = false := by simpa using hu
          rw [hu] at hcj
          clear hno hu
          go_wp2
          go_round
          case rel => exact ⟨j + 1, by omega, by go_num⟩
          case measure => simp [intOf]; omega
      · obtain rfl : j = i := by omega
        have hy := HF.out.2.2 h6
        rw [hy.1] at hcj
        rw [hy.2] at hcn
        clear hy
        go_wp2
        go_ret
        exact ⟨by simp [h6], rfl⟩
    · obtain rfl : j = 6 := by omega
      obtain rfl : i = 6 := by omega
      go_wp2
      go_ret
      exact ⟨rfl, rfl⟩
end Go.Proofs.YtcknoadoeonbjaaK

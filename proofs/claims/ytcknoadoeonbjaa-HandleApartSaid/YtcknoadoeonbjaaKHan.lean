import Derived.Test.YtcknoadoeonbjaaKPackE
import Derived.Deep.QuietTactic
import Derived.BigQuiet
namespace Go.Proofs.YtcknoadoeonbjaaK
open Go.RowKit
set_option linter.unusedSimpArgs false
set_option linter.unusedVariables false
/-- The program's table at block b: of each of six slots whether it is used, and its inode. -/
def Tbl (w : World) (b : Nat) (u : Nat → Bool) (n : Nat → Int) : Prop :=
  ∃ cs, w.heap[b]? = some (.cells cs 82 (0, 0)) ∧ cs.size = 12 ∧ ∀ i, i < 6 → cs[i * 2]? = some (.bool (u i)) ∧ cs[i * 2 + 1]? = some (.int .i64 (n i))
theorem Tbl.below {w w1 : World} {b : Nat} {u : Nat → Bool} {n : Nat → Int} (h : Tbl w b u n) (hb : Below w.heap.size w w1) : Tbl w1 b u n := by
  obtain ⟨cs, h1, h2⟩ := h
  exact ⟨cs, (hb.block b (Array.getElem?_eq_some_iff.1 h1).1).trans h1, h2⟩
theorem Tbl.cell0 {w : World} {b : Nat} {u : Nat → Bool} {n : Nat → Int} (h : Tbl w b u n) (i : Nat) (hi : i < 6) : w.cell? ⟨b, i * 2, none⟩ = some (.bool (u i)) := by
  obtain ⟨cs, h1, h2, h3⟩ := h
  rw [cell_of_row w b _ cs _ _ h1]; exact (h3 i hi).1
theorem Tbl.cell1 {w : World} {b : Nat} {u : Nat → Bool} {n : Nat → Int} (h : Tbl w b u n) (i : Nat) (hi : i < 6) : w.cell? ⟨b, i * 2 + 1, none⟩ = some (.int .i64 (n i)) := by
  obtain ⟨cs, h1, h2, h3⟩ := h
  rw [cell_of_row w b _ cs _ _ h1]; exact (h3 i hi).2
theorem Tbl.frozen {w : World} {b : Nat} {u : Nat → Bool} {n : Nat → Int} (h : Tbl w b u n) (i : Nat) : w.frozen? ⟨b, i, none⟩ = false := by
  obtain ⟨cs, h1, h2, h3⟩ := h
  simp [World.frozen?, h1]
theorem new_tab (w : World) : Calls Try.prog 33 #[] w fun e w' => ∃ b, e = .returned (.pointer (some ⟨b, 0, none⟩)) ∧ w.heap.size ≤ b ∧ Tbl w' b (fun _ => false) (fun _ => 0) ∧ Below w.heap.size w w' := by
  go_enter Try.func33, Try.ntmps33
  go_wp2
  go_ret
  exact ⟨_, rfl, Nat.le_refl _, ⟨_, heap_alloc_new w _, rfl, fun i hi => by
    match i, hi with
    | 0, _ => exact ⟨rfl, rfl⟩
    | 1, _ => exact ⟨rfl, rfl⟩
    | 2, _ => exact ⟨rfl, rfl⟩
    | 3, _ => exact ⟨rfl, rfl⟩
    | 4, _ => exact ⟨rfl, rfl⟩
    | 5, _ => exact ⟨rfl, rfl⟩⟩, (Below.refl _ _).alloc (Nat.le_refl _) _⟩
/-- The slot of a handle: none where it isn't one. -/
theorem slot_none (b : Nat) (u : Nat → Bool) (n : Nat → Int) (h : Int) (w : World) (hT : Tbl w b u n) (hn : h < 1 ∨ 6 < h ∨ ∃ i : Nat, i < 6 ∧ h = (i : Int) + 1 ∧ u i = false) :
    Calls Try.prog 45 #[.pointer (some ⟨b, 0, none⟩), .int .i64 h] w fun e w' => e = .returned (.pointer none) ∧ w = w' := by
  by_cases h1 : h < 1
  · clear hn hT
    go_enter Try.func45, Try.ntmps45
    go_wp2
    go_ret
    exact ⟨rfl, rfl⟩
  by_cases h6 : 6 < h
  · clear hn hT
    go_enter Try.func45, Try.ntmps45
    go_wp2
    go_ret
    exact ⟨rfl, rfl⟩
  obtain ⟨i, hi, rfl, hu⟩ : ∃ i : Nat, i < 6 ∧ h = (i : Int) + 1 ∧ u i = false := by
    rcases hn with e | e | e
    · exact absurd e h1
    · exact absurd e h6
    · exact e
  have hc := hT.cell0 i hi
  rw [hu] at hc
  clear hn hT hu h1 h6
  go_enter Try.func45, Try.ntmps45
  go_wp2
  go_ret
  exact ⟨rfl, rfl⟩
theorem slot_some (b : Nat) (u : Nat → Bool) (n : Nat → Int) (i : Nat) (w : World) (hT : Tbl w b u n) (hi : i < 6) (hu : u i = true) :
    Calls Try.prog 45 #[.pointer (some ⟨b, 0, none⟩), .int .i64 ((i : Int) + 1)] w fun e w' => e = .returned (.pointer (some ⟨b, i * 2, none⟩)) ∧ w = w' := by
  have hc := hT.cell0 i hi
  rw [hu] at hc
  clear hT hu
  go_enter Try.func45, Try.ntmps45
  go_wp2
  go_ret
  exact ⟨rfl, rfl⟩
end Go.Proofs.YtcknoadoeonbjaaK

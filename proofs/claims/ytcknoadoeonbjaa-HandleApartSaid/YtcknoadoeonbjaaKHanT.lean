import Derived.Test.YtcknoadoeonbjaaKHan
namespace Go.Proofs.YtcknoadoeonbjaaK
open Go.RowKit
set_option linter.unusedSimpArgs false
set_option linter.unusedVariables false
/-- A function that is changed at one place. -/
def put {α : Type} (f : Nat → α) (i : Nat) (v : α) : Nat → α := fun j => if j = i then v else f j
/-- Which handle is the first that is none, from 0; 6: there is none. -/
def Free (u : Nat → Bool) (i : Nat) : Prop := i ≤ 6 ∧ (∀ j, j < i → u j = true) ∧ (i < 6 → u i = false)
theorem Tbl.put {w : World} {b : Nat} {u : Nat → Bool} {n : Nat → Int} (h : Tbl w b u n) (i : Nat) (hi : i < 6) (v : Bool) (x : Int) :
    Tbl ((w.setCell ⟨b, i * 2, none⟩ (.bool v)).setCell ⟨b, i * 2 + 1, none⟩ (.int .i64 x)) b (put u i v) (put n i x) := by
  obtain ⟨cs, h1, h2, h3⟩ := h
  refine ⟨(cs.setIfInBounds (i * 2) (.bool v)).setIfInBounds (i * 2 + 1) (.int .i64 x), heap_setCell_same _ b _ _ _ _ (heap_setCell_same _ b _ _ _ _ h1), by simp [h2], fun j hj => ?_⟩
  have hs := h3 j hj
  unfold YtcknoadoeonbjaaK.put
  by_cases e : j = i
  · subst e
    simp [Array.getElem?_setIfInBounds, h2]
    omega
  · simp [Array.getElem?_setIfInBounds, h2, e]
    have e1 : ¬ i * 2 = j * 2 := by omega
    have e2 : ¬ i * 2 + 1 = j * 2 := by omega
    have e3 : ¬ i * 2 = j * 2 + 1 := by omega
    simp [e1, e2, e3, hs]
theorem get_none (b : Nat) (u : Nat → Bool) (n : Nat → Int) (h : Int) (w : World) (hT : Tbl w b u n) (hn : h < 1 ∨ 6 < h ∨ ∃ i : Nat, i < 6 ∧ h = (i : Int) + 1 ∧ u i = false) :
    Calls Try.prog 38 #[.pointer (some ⟨b, 0, none⟩), .int .i64 h] w fun e w' => e = .returned (.tuple #[.int .i64 0, .int .i64 66]) ∧ w = w' := by
  have HC := Lib.hid (slot_none b u n h w hT hn)
  clear hT hn
  go_enter Try.func38, Try.ntmps38
  go_wp2_with (go_at_call 45; refine HC.out.mono ?_; rintro e w1 ⟨rfl, rfl⟩)
  go_ret2
  exact ⟨rfl, rfl⟩
theorem get_some (b : Nat) (u : Nat → Bool) (n : Nat → Int) (i : Nat) (w : World) (hT : Tbl w b u n) (hi : i < 6) (hu : u i = true) :
    Calls Try.prog 38 #[.pointer (some ⟨b, 0, none⟩), .int .i64 ((i : Int) + 1)] w fun e w' => e = .returned (.tuple #[.int .i64 (n i), .int .i64 0]) ∧ w = w' := by
  have HC := Lib.hid (slot_some b u n i w hT hi hu)
  have hc := hT.cell1 i hi
  clear hT hu
  go_enter Try.func38, Try.ntmps38
  go_wp2_with (go_at_call 45; refine HC.out.mono ?_; rintro e w1 ⟨rfl, rfl⟩)
  go_ret2
  exact ⟨rfl, rfl⟩
theorem close_none (b : Nat) (u : Nat → Bool) (n : Nat → Int) (h : Int) (w : World) (hT : Tbl w b u n) (hn : h < 1 ∨ 6 < h ∨ ∃ i : Nat, i < 6 ∧ h = (i : Int) + 1 ∧ u i = false) :
    Calls Try.prog 34 #[.pointer (some ⟨b, 0, none⟩), .int .i64 h] w fun e w' => e = .returned (.int .i64 66) ∧ w = w' := by
  have HC := Lib.hid (slot_none b u n h w hT hn)
  clear hT hn
  go_enter Try.func34, Try.ntmps34
  go_wp2_with (go_at_call 45; refine HC.out.mono ?_; rintro e w1 ⟨rfl, rfl⟩)
  go_ret
  exact ⟨rfl, rfl⟩
theorem close_some (b : Nat) (u : Nat → Bool) (n : Nat → Int) (i : Nat) (w : World) (hT : Tbl w b u n) (hi : i < 6) (hu : u i = true) :
    Calls Try.prog 34 #[.pointer (some ⟨b, 0, none⟩), .int .i64 ((i : Int) + 1)] w fun e w' => e = .returned (.int .i64 0) ∧ Tbl w' b (put u i false) (put n i 0) ∧ w.grownBy w' (some b) := by
  have HC := Lib.hid (slot_some b u n i w hT hi hu)
  have hc := hT.cell0 i hi
  have hc1 := hT.cell1 i hi
  have hf := hT.frozen (i * 2)
  have hf1 := hT.frozen (i * 2 + 1)
  have hp := hT.put i hi false 0
  clear hT
  go_enter Try.func34, Try.ntmps34
  go_wp2_with (go_at_call 45; refine HC.out.mono ?_; rintro e w1 ⟨rfl, rfl⟩)
  go_ret
  refine ⟨rfl, hp, ?_⟩
  exact grown_trans (grown_set _ b _ _) (grown_set _ b _ _)
/-- The first slot that isn't used. -/
theorem anon_any (u : Bool) (n : Int) (w : World) : Calls Try.prog 47 #[.agg #[.bool u, .int .i64 n]] w fun e w' => e = .returned (.bool (!u)) ∧ Below w.heap.size w w' := by
  go_enter Try.func47, Try.ntmps47
  go_wp2
  go_ret
  exact ⟨rfl, (Below.refl _ _).alloc (Nat.le_refl _) _⟩
theorem ifunc_any (b : Nat) (u : Nat → Bool) (n : Nat → Int) (i : Nat) (w : World) (hT : Tbl w b u n) (hF : Free u i) :
    Calls Try.prog 46 #[.slice (some ⟨b, 0, none⟩) 6 6, .func (.func 47) #[] #[]] w fun e w' => e = .returned (.int .i64 (if i < 6 then (i : Int) else -1)) ∧ Below w.heap.size w w' := by
  have HF := Lib.hid hF
  have hi6 := hF.1
  clear hF
  have HC := Lib.hid (fun u n W => anon_any u n W)
  go_enter Try.func46, Try.ntmps46
  go_wp2
  go_loopw [5, 8] (fun v k wr => ∃ j : Nat, j ≤ i ∧ k = .int .i64 j ∧ Below w.heap.size w wr) (fun _ k _ => 6 - (intOf k).toNat)
  case atStart => exact ⟨0, Nat.zero_le _, rfl, Below.refl _ _⟩
  case round =>
    obtain ⟨j, hj, rfl, hb⟩ := hrel
    by_cases h6 : j < 6
    · have hT1 := hT.below hb
      have hc0 := hT1.cell0 j h6
      have hc1 := hT1.cell1 j h6
      have hsz := hb.size
      by_cases hlt : j < i
      · rw [HF.out.2.1 j hlt] at hc0
        clear hT1
        go_wp2_with (go_at_call 47; refine (HC.out _ _ _).mono ?_; rintro e w2 ⟨rfl, hb2⟩; have hb3 := hb.trans (hb2.mono hsz))
        go_roundw
        case rel => exact ⟨j + 1, by omega, by go_num, hb3⟩
        case measure => simp [intOf]; omega
      · obtain rfl : j = i := by omega
        rw [HF.out.2.2 h6] at hc0
        clear hT1
        go_wp2_with (go_at_call 47; refine (HC.out _ _ _).mono ?_; rintro e w2 ⟨rfl, hb2⟩; have hb3 := hb.trans (hb2.mono hsz))
        go_ret
        exact ⟨by first | rfl | rw [if_pos h6], hb3⟩
    · obtain rfl : j = 6 := by omega
      obtain rfl : i = 6 := by omega
      go_wp2
      go_ret
      exact ⟨by first | rfl | rw [if_neg (by decide)], hb⟩
theorem open_any (b : Nat) (u : Nat → Bool) (n : Nat → Int) (x : Int) (i : Nat) (w : World) (hT : Tbl w b u n) (hF : Free u i) (hi : i < 6) :
    Calls Try.prog 35 #[.pointer (some ⟨b, 0, none⟩), .int .i64 x] w fun e w' => e = .returned (.tuple #[.int .i64 ((i : Int) + 1), .int .i64 0]) ∧ Tbl w' b (put u i true) (put n i x) ∧ w.grownBy w' (some b) := by
  have HC := Lib.hid (ifunc_any b u n i w hT hF)
  rw [if_pos hi] at HC
  clear hF
  go_enter Try.func35, Try.ntmps35
  go_wp2_with (go_at_call 46; refine HC.out.mono ?_; rintro e w1 ⟨rfl, hb⟩; have hT1 := hT.below hb; have hc := hT1.cell0 i hi; have hc1 := hT1.cell1 i hi; have hf := hT1.frozen (i * 2); have hf1 := hT1.frozen (i * 2 + 1); have hp := hT1.put i hi true x; clear hT1)
  go_ret2
  refine ⟨rfl, hp, ?_⟩
  exact grown_trans (grown_of hb) (grown_trans (grown_set _ b _ _) (grown_set _ b _ _))
theorem open_full (b : Nat) (u : Nat → Bool) (n : Nat → Int) (x : Int) (w : World) (hT : Tbl w b u n) (hF : Free u 6) :
    Calls Try.prog 35 #[.pointer (some ⟨b, 0, none⟩), .int .i64 x] w fun e w' => e = .returned (.tuple #[.int .i64 0, .int .i64 67]) ∧ Below w.heap.size w w' := by
  have HC := Lib.hid (ifunc_any b u n 6 w hT hF)
  rw [if_neg (by decide)] at HC
  clear hT hF
  go_enter Try.func35, Try.ntmps35
  go_wp2_with (go_at_call 46; refine HC.out.mono ?_; rintro e w1 ⟨rfl, hb⟩)
  go_ret2
  exact ⟨rfl, hb⟩
theorem below_drewN {B : Nat} {w w1 : World} {k : Nat} (h : Below B w w1) : Below B w (w1.drewN k) := ⟨h.os, h.tape, h.output, h.size, h.block⟩
/-- The slot of an inode is looked for. -/
def Seeks (u : Nat → Bool) (n : Nat → Int) (x : Int) (i : Nat) : Prop := i ≤ 6 ∧ (∀ j, j < i → ¬ (u j = true ∧ n j = x)) ∧ (i < 6 → u i = true ∧ n i = x)
theorem sindex_any (b : Nat) (u : Nat → Bool) (n : Nat → Int) (x : Int) (i : Nat) (w : World) (hT : Tbl w b u n) (hF : Seeks u n x i) :
    Calls Try.prog 50 #[.slice (some ⟨b, 0, none⟩) 6 6, .agg #[.bool true, .int .i64 x]] w fun e w' => e = .returned (.int .i64 (if i < 6 then (i : Int) else -1)) ∧ Below w.heap.size w w' := by
  have HF := Lib.hid hF
  have hi6 := hF.1
  clear hF
  have hbl : b ≠ w.heap.size := by
    obtain ⟨cs, h1, _⟩ := hT
    exact Nat.ne_of_lt (Array.getElem?_eq_some_iff.1 h1).1
  go_enter Try.func50, Try.ntmps50
  go_wp2
  obtain ⟨c, hc⟩ : ∃ c, c = w.heap.size := ⟨_, rfl⟩
  obtain ⟨W, hW⟩ : ∃ W, W = w.alloc (Obj.cells #[Value.bool true, Value.int .i64 x] 79) := ⟨_, rfl⟩
  have hrow : W.heap[c]? = some (.cells #[Value.bool true, Value.int .i64 x] 79 (0, 0)) := by rw [hW, hc]; exact heap_alloc_new w _
  have hb1 : Below w.heap.size w W := by rw [hW]; exact (Below.refl _ _).alloc (Nat.le_refl _) _
  rw [← hW, ← hc]
  clear hW hc hbl
  go_loopw [5, 8] (fun v k wr => ∃ j : Nat, j ≤ i ∧ k = .int .i64 j ∧ Below w.heap.size w wr ∧ wr.heap[c]? = some (.cells #[Value.bool true, Value.int .i64 x] 79 (0, 0))) (fun _ k _ => 6 - (intOf k).toNat)
  case atStart => exact ⟨0, Nat.zero_le _, rfl, hb1, hrow⟩
  case round =>
    obtain ⟨j, hj, rfl, hb, hr⟩ := hrel
    clear hrow hb1
    by_cases h6 : j < 6
    · have hT1 := hT.below hb
      have hc0 := hT1.cell0 j h6
      have hc1 := hT1.cell1 j h6
      have hd0 : wr.cell? ⟨c, 0, none⟩ = some (.bool true) := cell_of_row wr c 0 _ _ _ hr
      have hd1 : wr.cell? ⟨c, 1, none⟩ = some (.int .i64 x) := cell_of_row wr c 1 _ _ _ hr
      have HR := Lib.hid hr
      clear hr hT1
      by_cases hlt : j < i
      · have hno := HF.out.2.1 j hlt
        by_cases hu : u j = true
        · have hx : (x == n j) = false := by
            rw [beq_eq_false_iff_ne]; intro e; exact hno ⟨hu, e.symm⟩
          rw [hu] at hc0
          clear hno hu
          go_wp2
          go_quiet (fail)
          go_wp2
          go_roundw
          case rel => exact ⟨j + 1, by omega, by go_num, below_drewN hb, HR.out⟩
          case measure => simp [intOf]; omega
        · have hu : u j = false := by simpa using hu
          rw [hu] at hc0
          clear hno hu
          go_wp2
          go_quiet (fail)
          go_wp2
          go_roundw
          case rel => exact ⟨j + 1, by omega, by go_num, below_drewN hb, HR.out⟩
          case measure => simp [intOf]; omega
      · obtain rfl : j = i := by omega
        have hy := HF.out.2.2 h6
        rw [hy.1] at hc0
        rw [hy.2] at hc1
        clear hy
        go_wp2
        go_quiet (fail)
        go_wp2
        go_ret
        exact ⟨by first | rfl | rw [if_pos h6], below_drewN hb⟩
    · obtain rfl : j = 6 := by omega
      obtain rfl : i = 6 := by omega
      go_wp2
      go_ret
      exact ⟨by first | rfl | rw [if_neg (by decide)], hb⟩
theorem scontains_any (b : Nat) (u : Nat → Bool) (n : Nat → Int) (x : Int) (i : Nat) (w : World) (hT : Tbl w b u n) (hF : Seeks u n x i) :
    Calls Try.prog 48 #[.slice (some ⟨b, 0, none⟩) 6 6, .agg #[.bool true, .int .i64 x]] w fun e w' => e = .returned (.bool (decide (i < 6))) ∧ Below w.heap.size w w' := by
  have HC := Lib.hid (fun W hT => sindex_any b u n x i W hT hF)
  have hi6 := hF.1
  clear hF
  by_cases hi : i < 6
  · rw [if_pos hi] at HC
    rw [show decide (i < 6) = true from by simpa using hi]
    go_enter Try.func48, Try.ntmps48
    go_wp2_with (go_at_call 50; refine (HC.out _ (hT.below ((Below.refl _ _).alloc (Nat.le_refl _) _))).mono ?_; rintro e w1 ⟨rfl, hb⟩; have hb2 := ((Below.refl _ w).alloc (Nat.le_refl _) _).trans (hb.mono (by simp)))
    go_ret
    exact ⟨rfl, hb2⟩
  · rw [if_neg hi] at HC
    rw [show decide (i < 6) = false from by simpa using hi]
    go_enter Try.func48, Try.ntmps48
    go_wp2_with (go_at_call 50; refine (HC.out _ (hT.below ((Below.refl _ _).alloc (Nat.le_refl _) _))).mono ?_; rintro e w1 ⟨rfl, hb⟩; have hb2 := ((Below.refl _ w).alloc (Nat.le_refl _) _).trans (hb.mono (by simp)))
    go_ret
    exact ⟨rfl, hb2⟩
theorem uses_any (b : Nat) (u : Nat → Bool) (n : Nat → Int) (x : Int) (i : Nat) (w : World) (hT : Tbl w b u n) (hF : Seeks u n x i) :
    Calls Try.prog 40 #[.pointer (some ⟨b, 0, none⟩), .int .i64 x] w fun e w' => e = .returned (.bool (decide (i < 6))) ∧ Below w.heap.size w w' := by
  have HC := Lib.hid (scontains_any b u n x i w hT hF)
  clear hF hT
  obtain ⟨r, hr⟩ : ∃ r, r = decide (i < 6) := ⟨_, rfl⟩
  rw [← hr] at HC
  rw [← hr]
  clear hr
  go_enter Try.func40, Try.ntmps40
  go_wp2_with (go_at_call 48; refine HC.out.mono ?_; rintro e w1 ⟨rfl, hb⟩)
  go_ret
  exact ⟨rfl, hb⟩
/-- The example of the document. -/
theorem han_speaks (w : World) : Calls Try.prog 32 #[] w fun e w' => e = .returned (.bool true) ∧ Below w.heap.size w w' := by
  go_enter Try.func32, Try.ntmps32
  go_wp2_with (first
    | (go_at_call 33; refine (new_tab _).mono ?_; rintro e w1 ⟨b, rfl, hbl, hT, hb⟩; have hT1 := open_any b _ _ 9 0 w1 hT ⟨by decide, by simp, by simp⟩ (by decide); clear hT)
    | (go_at_call 35; refine hT1.mono ?_; clear hT1; rintro e w2 ⟨rfl, hT, hg⟩; have hb2 := hb.grown hg hb.size (fun k hk => by injection hk with hk; omega); have hT2 := open_any b _ _ 9 1 w2 hT ⟨by decide, by simp [put], by simp [put]⟩ (by decide); clear hT hg)
    | (go_at_call 35; refine hT2.mono ?_; clear hT2; rintro e w3 ⟨rfl, hT, hg⟩; have hb3 := hb2.grown hg hb2.size (fun k hk => by injection hk with hk; omega); have hT3 := close_some b _ _ 0 w3 hT (by decide) (by simp [put]); clear hT hg)
    | (go_at_call 34; refine hT3.mono ?_; clear hT3; rintro e w4 ⟨rfl, hT, hg⟩; have hb4 := hb3.grown hg hb3.size (fun k hk => by injection hk with hk; omega); have hT4 := open_any b _ _ 7 0 w4 hT ⟨by decide, by simp, by simp [put]⟩ (by decide); clear hT hg)
    | (go_at_call 35; refine hT4.mono ?_; clear hT4; rintro e w5 ⟨rfl, hT, hg⟩; have hb5 := hb4.grown hg hb4.size (fun k hk => by injection hk with hk; omega); clear hT hg))
  go_ret
  exact ⟨rfl, hb5⟩
end Go.Proofs.YtcknoadoeonbjaaK

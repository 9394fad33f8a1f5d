import Derived.Test.YtljdfhckllncoaaKPackV
import Derived.Test.YtljdfhckllncoaaKStep
namespace Go.Proofs.YtljdfhckllncoaaK
open Go.RowKit
set_option linter.unusedSimpArgs false
set_option linter.unusedVariables false
/-- The reference's eye at block b: bytes, the next one's place, whether too much was read. -/
def Eye (w : World) (b : Nat) (A : Option Addr) (n c i : Nat) (bad : Bool) : Prop :=
  w.heap[b]? = some (.cells #[.slice A n c, .int .i64 (i : Int), .bool bad] 98 (0, 0))
theorem grown_drewN {w w1 : World} {k : Nat} {row : Option Nat} (h : (w.drewN k).grownBy w1 row) : w.grownBy w1 row := ⟨h.os, h.tape, h.output, h.size, h.block⟩
theorem cut_mid (w : World) (A : Option Addr) (n c i k : Nat) (bs : List UInt8) (h : Bs w (.slice A n c) bs) (hk : i + k ≤ n) :
    ∃ A' c', (∀ W : World, (Instr.slice 22 (.slice A n c) (some (.int .i64 (i : Int))) (some (.int .i64 ((i : Int) + (k : Int)))) none).run Try.prog W = .ok (.slice A' k c') W) ∧
      (∀ W : World, Bs W (.slice A n c) bs → Bs W (.slice A' k c') ((bs.drop i).take k)) := by
  have hn := h.len
  refine ⟨if c = i then A else A.map (·.add i), c - i, fun W => ?_, fun W hW => ?_⟩
  · obtain ⟨inf, hi, hz⟩ := Option.map_eq_some_iff.1 info_u8
    simp only [Prod.mk.injEq] at hz
    have hel : Try.prog.elem 22 = 5 := by simp [Program.elem, Try.underlying22]
    have hu : Try.prog.underlying 22 = some (.slice (Try.prog.elem 22)) := by rw [hel]; exact Try.underlying22
    have hc : n ≤ c := by
      obtain ⟨_, _, he, h1, _⟩ := h
      injection he with e1 e2 e3
      omega
    rw [show ((i : Int) + (k : Int)) = ((i + k : Nat) : Int) from by omega]
    rw [run_slice_lh W 22 A n c hu .i64 .i64 (i : Int) ((i + k : Nat) : Int) (Int.natCast_nonneg _) (by omega) (by omega), hel]
    simp [sizeOf, typeInfo, hi, hz.2.1, sliced, Result.andThen]
    omega
  · have h1 := cut_to W (if c = i then A else A.map (·.add i)) (n - i) (c - i) k (bs.drop i) ?_ (by omega)
    · exact h1
    · obtain ⟨A', hrun, hdrop, _⟩ := cut_from W A n c i bs hW (by omega)
      obtain ⟨inf, hi, hz⟩ := Option.map_eq_some_iff.1 info_u8
      simp only [Prod.mk.injEq] at hz
      have hel : Try.prog.elem 22 = 5 := by simp [Program.elem, Try.underlying22]
      have hu : Try.prog.underlying 22 = some (.slice (Try.prog.elem 22)) := by rw [hel]; exact Try.underlying22
      have hr := hrun W
      rw [run_slice_l W 22 A n c hu .i64 (i : Int) (Int.natCast_nonneg _) (by omega), hel] at hr
      simp [sizeOf, typeInfo, hi, hz.2.1, sliced, Result.andThen] at hr
      rw [hr]
      exact hdrop W hW
set_option maxHeartbeats 1000000 in
theorem ebytes_neg (b : Nat) (A : Option Addr) (n c i : Nat) (bad : Bool) (s : Int) (w : World) (h : Eye w b A n c i bad) (hs : s < 0) :
    Calls Try.prog 63 #[.pointer (some ⟨b, 0, none⟩), .int .i64 s] w fun e w' => ∃ v, e = .returned v ∧ w'.ownsRow w.heap.size 5 1 v 0 [] ∧ Eye w' b A n c i bad ∧ w.grownBy w' (some b) := by
  have hlt := lt_of h
  have H := Lib.hid h
  clear h
  go_enter Try.func63, Try.ntmps63
  go_wp2
  go_ret
  refine ⟨_, rfl, own_empty rfl (Nat.le_refl _), ?_, grown_of ((Below.refl _ _).alloc (Nat.le_refl _) _)⟩
  unfold Eye
  rw [Below.heap_alloc _ _ _ hlt]
  exact H.out
set_option maxHeartbeats 1000000 in
theorem ebytes_over (b : Nat) (A : Option Addr) (n c i : Nat) (bad : Bool) (s : Int) (w : World) (h : Eye w b A n c i bad) (hs : 0 ≤ s) (hi : i ≤ n) (hn : n ≤ 140737488355328) (ho : (n : Int) - i < s) :
    Calls Try.prog 63 #[.pointer (some ⟨b, 0, none⟩), .int .i64 s] w fun e w' => ∃ v, e = .returned v ∧ w'.ownsRow w.heap.size 5 1 v 0 [] ∧ Eye w' b A n c n true ∧ w.grownBy w' (some b) := by
  have hlt := lt_of h
  have hc0 : w.cell? ⟨b, 0, none⟩ = some (.slice A n c) := cell_of h 0
  have hc1 : w.cell? ⟨b, 1, none⟩ = some (.int .i64 (i : Int)) := cell_of h 1
  have hc2 : w.cell? ⟨b, 2, none⟩ = some (.bool bad) := cell_of h 2
  have hf1 := frozen_of h 1
  have hf2 := frozen_of h 2
  have H := Lib.hid h
  clear h
  go_enter Try.func63, Try.ntmps63
  go_wp2
  go_quiet (fail)
  go_wp2
  go_ret
  refine ⟨_, rfl, own_empty (by simp) (by simp), ?_, ?_⟩
  · unfold Eye
    rw [Below.heap_alloc _ _ _ (by simpa using hlt)]
    exact heap_setCell_same _ b 2 _ _ _ (heap_setCell_same _ b 1 _ _ _ H.out)
  · refine grown_trans (row := some b) ?_ (grown_of ((Below.refl _ _).alloc (Nat.le_refl _) _))
    exact grown_trans (row := some b) (grown_drewN (grown_set (w.drewN nq) b 1 _)) (grown_set _ b 2 _)
set_option maxHeartbeats 1000000 in
theorem ebytes_in (b : Nat) (A : Option Addr) (n c i k : Nat) (bs : List UInt8) (bad : Bool) (s : Int) (w : World) (h : Eye w b A n c i bad) (hs : s = (k : Int)) (hi : i + k ≤ n) (hn : n ≤ 140737488355328) (hX : Bs w (.slice A n c) bs) :
    Calls Try.prog 63 #[.pointer (some ⟨b, 0, none⟩), .int .i64 s] w fun e w' => ∃ v, e = .returned v ∧ w'.ownsRow w.heap.size 5 1 v k (((bs.drop i).take k).map encB) ∧ Eye w' b A n c (i + k) bad ∧ w.grownBy w' (some b) := by
  subst hs
  have hlt := lt_of h
  have hc0 : w.cell? ⟨b, 0, none⟩ = some (.slice A n c) := cell_of h 0
  have hc1 : w.cell? ⟨b, 1, none⟩ = some (.int .i64 (i : Int)) := cell_of h 1
  have hc2 : w.cell? ⟨b, 2, none⟩ = some (.bool bad) := cell_of h 2
  have hf1 := frozen_of h 1
  obtain ⟨A', c', hrun, hcut⟩ := cut_mid w A n c i k bs hX hi
  have hwr : IntKind.i64.wrap ((i : Int) + (k : Int)) = (i : Int) + (k : Int) := by rw [IntKind.wrap_i64]; omega
  have hX1 := hcut w hX
  have H := Lib.hid h
  clear h hcut
  go_enter Try.func63, Try.ntmps63
  go_wp2
  go_quiet (fail)
  go_wp2
  have hbW : Below w.heap.size w ((w.drewN (nq + 1)).alloc (.cells #[] 5)) := (show Below w.heap.size w (w.drewN (nq + 1)) from ⟨rfl, rfl, rfl, Nat.le_refl _, fun _ _ => rfl⟩).alloc (Nat.le_refl _) _
  have k0 := cell_later hbW hc0
  have k1 := cell_later hbW hc1
  have hat := own_empty (w := w.drewN (nq + 1)) (b := w.heap.size) (base := w.heap.size) (e := 5) (size := 1) rfl (Nat.le_refl _)
  have hA := (hX1.below hbW).at
  have HL := Lib.hid hX1.cells
  go_region_law (refine step_append w.heap.size rfl _ _ 22 5 (.int .u8 0) 1 1 rfl Try.underlying22 info_u8 rfl (by decide) (by decide) (.slice (some ⟨w.heap.size, 0, none⟩) 0 0) 0 [] A' k c' (((bs.drop i).take k).map encB) (by simp [Act.eval, Act.put]) (by simp [Act.eval, Act.put]) hat hA HL.out (encB_all _) hbW.size (by omega) ?_; intro v1 w1 ho1 hg1 ha1)
  all_goals
    rw [Nat.zero_add, List.nil_append] at ho1
    have hb1 := below_grown hbW hat hg1 hbW.size
    have j1 := cell_later hb1 hc1
    have jf := (hb1.frozen hlt (p := ⟨b, 1, none⟩)).trans hf1
    go_wp2
    go_ret
    refine ⟨v1, rfl, ?_, ?_, ?_⟩
    · exact ownsRow_setCell_below ho1 hlt _
    · unfold Eye
      have e1 : ((i + k : Nat) : Int) = (i : Int) + (k : Int) := by omega
      rw [e1]
      exact heap_setCell_same _ b 1 _ _ _ ((hb1.block b hlt).trans H.out)
    · exact grown_trans (row := some b) (grown_of hb1) (grown_set w1 b 1 _)
end Go.Proofs.YtljdfhckllncoaaK

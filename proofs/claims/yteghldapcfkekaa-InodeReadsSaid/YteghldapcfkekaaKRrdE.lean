import Derived.Test.YteghldapcfkekaaKRrdS
import Derived.Deep.RegionHeld3
import Derived.Deep.DeepCutAuto
namespace Go.Proofs.YteghldapcfkekaaK
open Go.RowKit
set_option linter.unusedSimpArgs false
set_option linter.unusedVariables false
/-! The reference's Read. -/
theorem Bs.at_ {w : World} {A : Option Addr} {n c : Nat} {bs : List UInt8} (h : Bs w (.slice A n c) bs) (j : Nat) (hj : j < n) : ∃ a, A = some a ∧ w.cell? (a.add j) = some (.int .u8 (bA bs j : Int)) := by
  have hl := h.len
  obtain ⟨a, ha, hc⟩ := h.at.map j (by omega)
  refine ⟨a, ha, ?_⟩
  rw [hc]
  unfold encB bA
  rw [List.getD_eq_getElem?_getD, List.getElem?_eq_getElem (by omega : j < bs.length)]
  rfl
def rdB (w0 : World) (v : Value) (j : Nat) (es : List (List UInt8 × Int)) (u : Value) (bs : List UInt8) (W : World) : Prop := RT w0 W v j es ∧ Bs W u bs
theorem rdB.below {w0 : World} {v u : Value} {j : Nat} {es : List (List UInt8 × Int)} {bs : List UInt8} {W W' : World} (h : rdB w0 v j es u bs W) (hb : Below W.heap.size W W') : rdB w0 v j es u bs W' := ⟨h.1.below hb, h.2.below hb⟩
theorem rrd_nums (i i1 i2 l n : Nat) (h1 : i1 = i + 1) (h2 : i2 = i + 2) (hl : l < 256) (hi : i ≤ n) (hn : n ≤ 1000) : wrap64 ((i : Int) + 2) = i2 ∧ IntKind.i64.wrap ((i : Int) + 2) = i2 ∧ wrap64 ((i : Int) + 1) = i1 ∧ IntKind.i64.wrap ((i : Int) + 1) = i1 ∧ wrap64 ((i2 : Int) + l) = (i2 : Int) + l ∧ IntKind.i64.wrap ((i2 : Int) + l) = (i2 : Int) + l := by
  subst h1 h2
  refine ⟨?_, ?_, ?_, ?_, ?_, ?_⟩ <;> first | (rw [IntKind.wrap_i64]; omega) | (unfold wrap64; omega)
theorem rrd_nums2 (i i2 l n : Nat) (h2 : i2 = i + 2) (hi : i2 + l ≤ n) (hn : n ≤ 1000) : wrap64 (2 + (l : Int)) = 2 + l ∧ IntKind.i64.wrap (2 + (l : Int)) = 2 + l ∧ wrap64 ((i : Int) + (2 + l)) = ((i2 + l : Nat) : Int) ∧ IntKind.i64.wrap ((i : Int) + (2 + l)) = ((i2 + l : Nat) : Int) := by
  subst h2
  refine ⟨?_, ?_, ?_, ?_⟩ <;> first | (rw [IntKind.wrap_i64]; omega) | (unfold wrap64; omega)
theorem size_nums (x y : Nat) (hx : x < 256) (hy : y < 256) : wrap64 (256 * (y : Int)) = 256 * y ∧ wrap64 ((x : Int) + 256 * y) = ((x + 256 * y : Nat) : Int) ∧ IntKind.i64.wrap (256 * (y : Int)) = 256 * y ∧ IntKind.i64.wrap ((x : Int) + 256 * y) = ((x + 256 * y : Nat) : Int) := by
  refine ⟨?_, ?_, ?_, ?_⟩ <;> first | (rw [IntKind.wrap_i64]; omega) | (unfold wrap64; omega)
theorem byte_wrap (x : Nat) (h : x < 256) : IntKind.i64.wrap (x : Int) = x ∧ wrap64 (x : Int) = x := by
  constructor
  · rw [IntKind.wrap_i64]; omega
  · unfold wrap64; omega
set_option maxRecDepth 100000 in
set_option maxHeartbeats 16000000 in
theorem rrd_no (A : Option Addr) (n c : Nat) (bs : List UInt8) (w : World) (hX : Bs w (.slice A n c) bs) (hl : bs.length ≤ 1000) (hno : n < 2 ∨ (¬ (n = 3 ∧ bA bs 0 = 1) ∧ bA bs 0 ≠ 2) ∨ (bA bs 0 = 2 ∧ 8 < bA bs 1)) :
    Calls Try.prog 17 #[.slice A n c] w fun e w' => RdOut bs e w' ∧ Below w.heap.size w w' := by
  have HN := Lib.hid hX.len
  have HX := Lib.hid hX
  have hXb := hX.below ((Below.refl w.heap.size w).alloc (Nat.le_refl _) (.cells #[.int .i64 0, .int .i64 0, .slice none 0 0] 28))
  have HXb := Lib.hid hXb
  have hB0 := Bx.here w (.cells #[.int .i64 0, .int .i64 0, .slice none 0 0] 28)
  have HN1000 : Hid (n ≤ 1000) := Lib.hid (by rw [HN.out]; exact hl)
  clear hX hXb
  obtain ⟨xf0, xf1, xf2⟩ : (w.alloc (.cells #[.int .i64 0, .int .i64 0, .slice none 0 0] 28)).frozen? ⟨w.heap.size, 0, none⟩ = false ∧ (w.alloc (.cells #[.int .i64 0, .int .i64 0, .slice none 0 0] 28)).frozen? ⟨w.heap.size, 1, none⟩ = false ∧ (w.alloc (.cells #[.int .i64 0, .int .i64 0, .slice none 0 0] 28)).frozen? ⟨w.heap.size, 2, none⟩ = false := ⟨frozen_of hB0.row 0, frozen_of hB0.row 1, frozen_of hB0.row 2⟩
  obtain ⟨c0, hc0⟩ : ∃ x, x = bA bs 0 := ⟨_, rfl⟩
  by_cases hn2 : n < 2
  · have HNO := Lib.hid (rdI_short (bs := bs) (by rw [← HN.out]; exact hn2))
    have hn3 : ¬ n = 3 := by omega
    have HLD := Lib.hid (inode_load hB0.row)
    have HBE := Lib.hid hB0.below
    clear hc0
    go_enter Try.func17, Try.ntmps17
    go_wp2_with fail
    refine bodyPost_ret (v := .tuple #[.agg #[.int .i64 0, .int .i64 0, .slice none 0 0], .int .i64 11]) ?_ rfl ⟨RdOut.none HNO.out _, HBE.out⟩
    rw [results_cell_tmp rfl]
    simp [asAddr, Result.andThen, HLD.out]
  have hn2' : 2 ≤ n := Nat.le_of_not_lt hn2
  have HN2 : Hid (2 ≤ bs.length) := Lib.hid (by rw [← HN.out]; exact hn2')
  obtain ⟨a, rfl, hb0⟩ := HXb.out.at_ 0 (by omega)
  obtain ⟨a1, ha1, hb1⟩ := HXb.out.at_ 1 (by omega)
  cases ha1
  rw [← hc0] at hb0
  obtain ⟨c1, hc1⟩ : ∃ x, x = bA bs 1 := ⟨_, rfl⟩
  rw [← hc1] at hb1
  have hb11 : (w.alloc (.cells #[.int .i64 0, .int .i64 0, .slice none 0 0] 28)).cell? ⟨a.block, a.off + 1, none⟩ = some (.int .u8 (c1 : Int)) := by rw [add_nextE a 0] at hb1; exact hb1
  have hb00 : (w.alloc (.cells #[.int .i64 0, .int .i64 0, .slice none 0 0] 28)).cell? a = some (.int .u8 (c0 : Int)) := hb0
  have hc0l : c0 < 256 := by rw [hc0]; exact bA_lt bs 0
  have hc1l : c1 < 256 := by rw [hc1]; exact bA_lt bs 1
  have HC0 := Lib.hid hc0
  have HC1 := Lib.hid hc1
  clear hc0 hc1
  by_cases hk : c0 = 2
  rotate_left
  · have hf : ¬ (n = 3 ∧ c0 = 1) := by
      rcases hno with h | h | h
      · omega
      · rw [HC0.out]; exact h.1
      · exact absurd (HC0.out.trans h.1) hk
    have HNO := Lib.hid (rdI_kind (bs := bs) (by rw [← HN.out, ← HC0.out]; exact hf) (by rw [← HC0.out]; exact hk))
    have HLD := Lib.hid (inode_load hB0.row)
    have HBE := Lib.hid hB0.below
    by_cases hn3 : n = 3
    · have hc01 : ¬ c0 = 1 := fun e => hf ⟨hn3, e⟩
      clear hf
      go_enter Try.func17, Try.ntmps17
      go_wp2_with fail
      refine bodyPost_ret (v := .tuple #[.agg #[.int .i64 0, .int .i64 0, .slice none 0 0], .int .i64 11]) ?_ rfl ⟨RdOut.none HNO.out _, HBE.out⟩
      rw [results_cell_tmp rfl]
      simp [asAddr, Result.andThen, HLD.out]
    · clear hf
      go_enter Try.func17, Try.ntmps17
      go_wp2_with fail
      refine bodyPost_ret (v := .tuple #[.agg #[.int .i64 0, .int .i64 0, .slice none 0 0], .int .i64 11]) ?_ rfl ⟨RdOut.none HNO.out _, HBE.out⟩
      rw [results_cell_tmp rfl]
      simp [asAddr, Result.andThen, HLD.out]
  subst hk
  have hK2 : bA bs 0 = 2 := HC0.out.symm
  have HK2 := Lib.hid hK2
  replace hb0 : (w.alloc (.cells #[.int .i64 0, .int .i64 0, .slice none 0 0] 28)).cell? (a.add 0) = some (.int .u8 2) := hb0
  replace hb00 : (w.alloc (.cells #[.int .i64 0, .int .i64 0, .slice none 0 0] 28)).cell? a = some (.int .u8 2) := hb00
  have h8 : 8 < c1 := by
    rcases hno with h | h | h
    · omega
    · exact absurd HK2.out h.2
    · rw [HC1.out]; exact h.2
  clear hK2 hno
  · have HNO := Lib.hid (rdI_many HN2.out HK2.out (by rw [← HC1.out]; exact h8))
    have HLD := Lib.hid (inode_load hB0.row)
    have HBE := Lib.hid hB0.below
    go_enter Try.func17, Try.ntmps17
    go_wp2_with fail
    all_goals
      refine bodyPost_ret (v := .tuple #[.agg #[.int .i64 0, .int .i64 0, .slice none 0 0], .int .i64 11]) ?_ rfl ⟨RdOut.none HNO.out _, HBE.out⟩
      rw [results_cell_tmp rfl]
      simp [asAddr, Result.andThen, HLD.out]
end Go.Proofs.YteghldapcfkekaaK

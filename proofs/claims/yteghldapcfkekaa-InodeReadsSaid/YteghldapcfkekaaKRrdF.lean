import Derived.Test.YteghldapcfkekaaKRrdE
namespace Go.Proofs.YteghldapcfkekaaK
open Go.RowKit
set_option linter.unusedSimpArgs false
set_option linter.unusedVariables false
/-! The reference's Read of a file. -/
theorem es_nil (w : World) : Es w (.slice none 0 0) [] := ⟨none, 0, rfl, by simp, by simp, At.nil _ _⟩
set_option maxRecDepth 100000 in
set_option maxHeartbeats 16000000 in
theorem rrd_file (A : Option Addr) (n c : Nat) (bs : List UInt8) (w : World) (hX : Bs w (.slice A n c) bs) (hf3 : n = 3) (hf1 : bA bs 0 = 1) :
    Calls Try.prog 17 #[.slice A n c] w fun e w' => RdOut bs e w' ∧ Below w.heap.size w w' := by
  subst hf3
  have hn := hX.len
  have hF := rdI_file hn.symm hf1
  obtain ⟨x, hx⟩ : ∃ x, x = bA bs 1 := ⟨_, rfl⟩
  obtain ⟨y, hy⟩ : ∃ x, x = bA bs 2 := ⟨_, rfl⟩
  have hx2 : x < 256 := by rw [hx]; exact bA_lt bs 1
  have hy2 : y < 256 := by rw [hy]; exact bA_lt bs 2
  rw [← hx, ← hy] at hF
  have hXb := hX.below ((Below.refl w.heap.size w).alloc (Nat.le_refl _) (.cells #[.int .i64 0, .int .i64 0, .slice none 0 0] 28))
  have hB0 := Bx.here w (.cells #[.int .i64 0, .int .i64 0, .slice none 0 0] 28)
  obtain ⟨a, rfl, hb0⟩ := hXb.at_ 0 (by decide)
  obtain ⟨a1, ha1, hb1⟩ := hXb.at_ 1 (by decide)
  cases ha1
  obtain ⟨a1, ha1, hb2⟩ := hXb.at_ 2 (by decide)
  cases ha1
  rw [hf1] at hb0
  rw [← hx, add_nextE a 0] at hb1
  rw [← hy, add_nextE a 1, add_nextE a 0] at hb2
  replace hb0 : (w.alloc (.cells #[.int .i64 0, .int .i64 0, .slice none 0 0] 28)).cell? a = some (.int .u8 1) := hb0
  replace hb1 : (w.alloc (.cells #[.int .i64 0, .int .i64 0, .slice none 0 0] 28)).cell? ⟨a.block, a.off + 1, none⟩ = some (.int .u8 (x : Int)) := hb1
  replace hb2 : (w.alloc (.cells #[.int .i64 0, .int .i64 0, .slice none 0 0] 28)).cell? ⟨a.block, a.off + 2, none⟩ = some (.int .u8 (y : Int)) := hb2
  rw [show ((x + 256 * y : Nat) : Int) = (x : Int) + 256 * (y : Int) from by omega] at hF
  have HF := Lib.hid hF
  have HSN := Lib.hid (size_nums x y hx2 hy2)
  have hxw := (byte_wrap x hx2).1
  have hyw := (byte_wrap y hy2).1
  have hs3 := HSN.out.2.2.1
  have hs4 : IntKind.i64.wrap ((x : Int) + 256 * (y : Int)) = (x : Int) + 256 * (y : Int) := by have := HSN.out.2.2.2; rw [this]; omega
  have HCk := Lib.hid (fun A n c W h => rri_any 1 ((x : Int) + 256 * (y : Int)) A n c [] W h)
  clear hx hy hF hX hn hXb
  go_enter Try.func17, Try.ntmps17
  go_upto_region 2 with fail
  go_region_held3 (fun W => W.cell? ⟨a.block, a.off + 1, none⟩ = some (.int .u8 (x : Int)) ∧ W.cell? ⟨a.block, a.off + 2, none⟩ = some (.int .u8 (y : Int))) (first | exact ⟨hb1, hb2⟩ | assumption | exact ⟨old_cell_drew hb1, old_cell_drew hb2⟩ | exact ⟨cell_later ((Below.refl _ _).drew.alloc (by simp) _) hb1, cell_later ((Below.refl _ _).drew.alloc (by simp) _) hb2⟩) (fail)
  obtain ⟨Z, hZ⟩ : ∃ Z, Z = (x : Int) + 256 * (y : Int) := ⟨_, rfl⟩
  rw [← hZ]
  rw [← hZ] at HF HCk
  clear hs3 hs4 hxw hyw hb1 hb2
  have hBB := (hB0.alloc (.cells #[.int .i64 1, .int .i64 Z, .slice none 0 0] 28)).drew
  have hBF := (Bx.here (w.alloc (.cells #[.int .i64 0, .int .i64 0, .slice none 0 0] 28)) (.cells #[.int .i64 1, .int .i64 Z, .slice none 0 0] 28)).drew
  have hb00 := old_cell_drew (o := .cells #[.int .i64 1, .int .i64 Z, .slice none 0 0] 28) hb0
  clear hb0
  generalize ((w.alloc (.cells #[.int .i64 0, .int .i64 0, .slice none 0 0] 28)).alloc (.cells #[.int .i64 1, .int .i64 Z, .slice none 0 0] 28)).drew = W2 at *
  have k0 := hBF.cell 0 _ rfl
  have k1 := hBF.cell 1 _ rfl
  have k2 := hBF.cell 2 _ rfl
  rw [show (w.alloc (.cells #[.int .i64 0, .int .i64 0, .slice none 0 0] 28)).heap.size = w.heap.size + 1 from by simp] at k0 k1 k2
  clear hZ hf1 hx2 hy2 HSN
  rcases hR : rightI 1 Z [] with _ | _
  · have HNO : Hid (rdI bs = none) := Lib.hid (by rw [HF.out, hR]; rfl)
    rw [hR] at HCk
    clear hR
    go_wp2_with (go_at_call 19; refine (HCk.out _ _ _ _ (es_nil _)).mono ?_; rintro e w5 ⟨rfl, hb5⟩; have hBB5 := hBB.go hb5; have z0 := hBB5.cell 0 _ rfl; have z1 := hBB5.cell 1 _ rfl; have z2 := hBB5.cell 2 _ rfl; have zf0 := frozen_of hBB5.row 0; have zf1 := frozen_of hBB5.row 1; have zf2 := frozen_of hBB5.row 2; have hba := cell_later hb5 hb00; have HLD := Lib.hid (inode_load (set3_row hBB5.row (.int .i64 0) (.int .i64 0) (.slice none 0 0))); have HBE := Lib.hid (set3_below hBB5.below (Nat.le_refl _) (.int .i64 0) (.int .i64 0) (.slice none 0 0)))
    refine bodyPost_ret (v := .tuple #[.agg #[.int .i64 0, .int .i64 0, .slice none 0 0], .int .i64 11]) ?_ rfl ⟨RdOut.none HNO.out _, HBE.out⟩
    rw [results_cell_tmp rfl]
    simp [asAddr, Result.andThen, HLD.out]
  · have HYE : Hid (rdI bs = some (1, Z, [])) := Lib.hid (by rw [HF.out, hR]; rfl)
    rw [hR] at HCk
    clear hR
    go_wp2_with (go_at_call 19; refine (HCk.out _ _ _ _ (es_nil _)).mono ?_; rintro e w5 ⟨rfl, hb5⟩; have hBB5 := hBB.go hb5; have z0 := hBB5.cell 0 _ rfl; have z1 := hBB5.cell 1 _ rfl; have z2 := hBB5.cell 2 _ rfl; have zf0 := frozen_of hBB5.row 0; have zf1 := frozen_of hBB5.row 1; have zf2 := frozen_of hBB5.row 2; have q0 := cell_later hb5 k0; have q1 := cell_later hb5 k1; have q2 := cell_later hb5 k2; have HLD := Lib.hid (inode_load (set3_row hBB5.row (.int .i64 1) (.int .i64 Z) (.slice none 0 0))); have HBE := Lib.hid (set3_below hBB5.below (Nat.le_refl _) (.int .i64 1) (.int .i64 Z) (.slice none 0 0)))
    refine bodyPost_ret (v := .tuple #[.agg #[.int .i64 1, .int .i64 Z, .slice none 0 0], .int .i64 0]) ?_ rfl ⟨RdOut.some HYE.out (es_nil _), HBE.out⟩
    rw [results_cell_tmp rfl]
    simp [asAddr, Result.andThen, HLD.out]
end Go.Proofs.YteghldapcfkekaaK

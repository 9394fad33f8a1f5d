import Derived.Test.YtoeonmdcoiemmaaKWearZ
import Derived.RegionTactic
import Derived.ChangeAlike
namespace Go.Proofs.YtoeonmdcoiemmaaK
open Go.RowKit
set_option linter.unusedSimpArgs false
set_option linter.unusedVariables false
/-- The least, and the greatest, wear of the first k. -/
def minW (ls : List Ld) : Nat → Int
  | 0 => (ls.getD 0 ldZ).wear
  | k + 1 => min (minW ls k) (ls.getD k ldZ).wear
def maxW (ls : List Ld) : Nat → Int
  | 0 => (ls.getD 0 ldZ).wear
  | k + 1 => max (maxW ls k) (ls.getD k ldZ).wear
set_option maxHeartbeats 2000000 in
theorem gap_any (A : Option Addr) (n c : Nat) (ls : List Ld) (w : World) (hX : WS w (.slice A n c) ls) (hn : 0 < n) :
    Calls Try.prog 23 #[.slice A n c] w fun e w' => e = .returned (.int .u64 (IntKind.u64.wrap (maxW ls n - minW ls n))) ∧ Below w.heap.size w w' := by
  have HN := Lib.hid hX.len.1
  have hmx := hX.len.2
  have hn' : (0 : Int) < n := by omega
  obtain ⟨a0, rfl, f0, f1, f2, f3, f4⟩ := hX.get 0 hn
  obtain ⟨y0, hy0⟩ : ∃ y, y = (ls.getD 0 ldZ).wear := ⟨_, rfl⟩
  rw [← hy0] at f2
  have HY := Lib.hid hy0
  clear hy0
  have hnz : ((n : Int) == 0) = false := by rw [beq_eq_false_iff_ne]; omega
  go_enter Try.func23, Try.ntmps23
  go_wp2
  have f2' : w.cell? ⟨a0.block, a0.off + 2, none⟩ = some (.int .u64 y0) := f2
  clear f0 f1 f2 f3 f4
  go_quiet (fail)
  go_wp2
  have hbq : Below w.heap.size w (w.drewN nq) := below_drewN (Below.refl _ _)
  go_loopw [3, 4, 6, 22] (fun v3 v4 v6 i wr => ∃ k : Nat, k ≤ n ∧ i = .int .i64 k ∧ v3 = .int .u64 (minW ls k) ∧ v4 = .int .u64 (maxW ls k) ∧ Below w.heap.size w wr) (fun _ _ _ i _ => n - (intOf i).toNat)
  case atStart => exact ⟨0, Nat.zero_le _, rfl, by rw [HY.out]; rfl, by rw [HY.out]; rfl, hbq⟩
  case round =>
    obtain ⟨k, hk, rfl, rfl, rfl, hb⟩ := hrel
    have hsz := hb.size
    by_cases hlt : k < n
    · obtain ⟨a', ha', c0, c1, c2, c3, c4⟩ := (hX.below hb).get k hlt
      injection ha' with ha'
      subst ha'
      obtain ⟨x, hx⟩ : ∃ x, x = ls.getD k ldZ := ⟨_, rfl⟩
      rw [← hx] at c0 c1 c2 c4
      have h1 : minW ls (k + 1) = min (minW ls k) x.wear := by rw [hx]; rfl
      have h2 : maxW ls (k + 1) = max (maxW ls k) x.wear := by rw [hx]; rfl
      have H1 := Lib.hid h1
      have H2 := Lib.hid h2
      obtain ⟨lo, hlo⟩ : ∃ z, z = minW ls k := ⟨_, rfl⟩
      obtain ⟨hi, hhi⟩ : ∃ z, z = maxW ls k := ⟨_, rfl⟩
      rw [← hlo] at H1
      rw [← hhi] at H2
      rw [← hlo, ← hhi]
      clear hx h1 h2 hlo hhi
      have hba := hb.alloc hsz (Obj.cells #[.int .i64 x.blk, .int .u64 x.seq, .int .u64 x.wear, .slice none 0 0, .int .i64 x.cnt] 70)
      have hn2 : (wr.alloc (Obj.cells #[.int .i64 x.blk, .int .u64 x.seq, .int .u64 x.wear, .slice none 0 0, .int .i64 x.cnt] 70)).cell? ⟨wr.heap.size, 2, none⟩ = some (.int .u64 x.wear) := cell_of_row _ _ 2 _ _ _ (heap_alloc_new wr _)
      obtain ⟨lo', hlo⟩ : ∃ z, z = min lo x.wear := ⟨_, rfl⟩
      obtain ⟨hi', hhi⟩ : ∃ z, z = max hi x.wear := ⟨_, rfl⟩
      rw [← hlo] at H1
      rw [← hhi] at H2
      go_wp2
      obtain ⟨W, hW⟩ : ∃ W, W = wr.alloc (Obj.cells #[.int .i64 x.blk, .int .u64 x.seq, .int .u64 x.wear, .slice none 0 0, .int .i64 x.cnt] 70) := ⟨_, rfl⟩
      obtain ⟨xb, hxb⟩ : ∃ xb, xb = wr.heap.size := ⟨_, rfl⟩
      rw [← hW] at hn2 hba
      rw [← hxb] at hn2
      rw [← hW, ← hxb]
      clear hW hxb c0 c1 c2 c3 c4
      have HLO := Lib.hid hlo
      have HHI := Lib.hid hhi
      clear hlo hhi
      by_cases hA : x.wear < lo <;> by_cases hB : hi < x.wear
      all_goals
        go_region_held3 (fun w' => w'.cell? ⟨xb, 2, none⟩ = some (.int .u64 x.wear)) (first | exact hn2 | assumption) (fail)
        all_goals
          go_wp2
          go_roundw
          case rel => exact ⟨k + 1, by omega, by go_num, by rw [H1.out, HLO.out]; congr 1; omega, by rw [H2.out, HHI.out]; congr 1; omega, hba.drew⟩
          case measure => simp [intOf]; omega
    · obtain rfl : k = n := by omega
      go_wp2
      go_ret
      exact ⟨rfl, hb⟩
end Go.Proofs.YtoeonmdcoiemmaaK

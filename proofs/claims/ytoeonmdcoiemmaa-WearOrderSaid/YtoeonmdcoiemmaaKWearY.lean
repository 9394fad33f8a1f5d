import Derived.Test.YtoeonmdcoiemmaaKWearX
namespace Go.Proofs.YtoeonmdcoiemmaaK
open Go.RowKit
set_option linter.unusedSimpArgs false
set_option linter.unusedVariables false
theorem info_load : (Try.prog.info? 70).map (fun i => (i.zero, i.size, i.bytes)) = some (some (.agg #[.int .i64 0, .int .u64 0, .int .u64 0, .slice none 0 0, .int .i64 0]), 5, 56) := by kernel_rfl
theorem encW_one (ls : List Ld) : ∀ u ∈ ls.flatMap encW, u.oneCell' = true := by
  intro u hu
  obtain ⟨l, _, hl⟩ := List.mem_flatMap.1 hu
  simp [encW] at hl
  rcases hl with rfl | rfl | rfl | rfl | rfl <;> rfl
theorem own_ws {w : World} {base n : Nat} {e : TypeId} {v : Value} {ls : List Ld} (hn : n = ls.length) (h : w.ownsRow base e 5 v n (ls.flatMap encW)) : WS w v ls := by
  obtain ⟨A, c, rfl, h1, h2⟩ := own_form h
  subst hn
  exact ⟨A, c, rfl, h1, h2, own_at h⟩
set_option maxHeartbeats 2000000 in
theorem loads_any (A : Option Addr) (n c : Nat) (ls : List Ld) (w : World) (hX : RS w (.slice A n c) ls) (hl : n ≤ 1000000) :
    Calls Try.prog 20 #[.slice A n c] w fun e w' => ∃ v, e = .returned v ∧ WS w' v ls ∧ Below w.heap.size w w' := by
  have HN := Lib.hid hX.len.1
  have hmx := hX.len.2
  go_enter Try.func20, Try.ntmps20
  go_wp2
  have hat := own_empty (w := w) (b := w.heap.size) (base := w.heap.size) (e := 70) (size := 5) rfl (Nat.le_refl _)
  have hb0 := (Below.refl w.heap.size w).alloc (Nat.le_refl _) (.cells #[] 70)
  go_loopw [3, 5, 9] (fun v3 v5 i wr => ∃ (k : Nat) (A3 : Option Addr) (c3 : Nat), k ≤ n ∧ i = .int .i64 k ∧ v3 = .slice A3 k c3 ∧ wr.ownsRow w.heap.size 70 5 (.slice A3 k c3) k ((ls.take k).flatMap encW) ∧ Below w.heap.size w wr) (fun _ _ i _ => n - (intOf i).toNat)
  case atStart => exact ⟨0, _, _, Nat.zero_le _, rfl, rfl, hat, hb0⟩
  case round =>
    obtain ⟨k, A3, c3, hk, rfl, rfl, ho, hb⟩ := hrel
    clear hat hb0
    have hsz := hb.size
    by_cases hlt : k < n
    · obtain ⟨a, rfl, c0, c1, c2, c3'⟩ := (hX.below hb).get k hlt
      obtain ⟨x, hx⟩ : ∃ x, x = ls.getD k ldZ := ⟨_, rfl⟩
      rw [← hx] at c0 c1 c2 c3'
      have HX := Lib.hid hx
      clear hx
      obtain ⟨W1, hW1⟩ : ∃ W1, W1 = wr.alloc (Obj.cells #[.int .u64 x.seq, .int .u64 x.wear, .int .i64 x.blk, .int .i64 x.cnt] 51) := ⟨_, rfl⟩
      have hs1 : W1.heap.size = wr.heap.size + 1 := by rw [hW1]; simp
      have hat := At.new W1 #[.int .i64 x.blk, .int .u64 x.seq, .int .u64 x.wear, .slice none 0 0, .int .i64 x.cnt] 70 (0, 0)
      have ho1 : W1.ownsRow w.heap.size 70 5 (.slice A3 k c3) k ((ls.take k).flatMap encW) := by rw [hW1]; exact ho.alloc _
      have ho2 := ho1.alloc (.cells #[.int .i64 x.blk, .int .u64 x.seq, .int .u64 x.wear, .slice none 0 0, .int .i64 x.cnt] 70)
      have hb1 : Below w.heap.size w W1 := by rw [hW1]; exact hb.alloc hsz _
      have hb2 := hb1.alloc hb1.size (.cells #[.int .i64 x.blk, .int .u64 x.seq, .int .u64 x.wear, .slice none 0 0, .int .i64 x.cnt] 70)
      rw [hs1] at hat
      rw [hW1] at hat ho2 hb2
      clear hW1 hs1 ho1 hb1
      go_wp2_with (at_builtin; refine wp_append w.heap.size rfl _ _ 45 70 (.agg #[.int .i64 0, .int .u64 0, .int .u64 0, .slice none 0 0, .int .i64 0]) 5 56 rfl Try.underlying45 info_load rfl (by decide) (by decide) (.slice A3 k c3) k ((ls.take k).flatMap encW) (some ⟨wr.heap.size + 1, 0, none⟩) 1 1 (encW x) rfl rfl ho2 hat rfl (by intro u hu; exact encW_one [x] u (by simpa using hu)) hb2.size (by omega) ?_; intro v1 w3 ho3 hg3 ha3; have hb3 := below_grown hb2 ho2 hg3 hb2.size; obtain ⟨A6, c6, rfl, _, _⟩ := own_form ho3)
      go_roundw
      case rel =>
        refine ⟨k + 1, A6, c6, by omega, by go_num, rfl, ?_, hb3⟩
        have hkx : k < ls.length := by rw [← HN.out]; exact hlt
        rw [List.take_succ_eq_append_getElem hkx, List.flatMap_append]
        have hxe : x = ls[k] := by rw [HX.out, List.getD_eq_getElem?_getD, List.getElem?_eq_getElem hkx]; rfl
        rw [← hxe]
        simpa using ho3
      case measure => simp [intOf]; omega
    · obtain rfl : k = n := by omega
      rw [List.take_of_length_le (by rw [← HN.out]; exact Nat.le_refl _)] at ho
      have hw := own_ws HN.out ho
      go_wp2
      go_ret
      exact ⟨_, rfl, hw, hb⟩
end Go.Proofs.YtoeonmdcoiemmaaK

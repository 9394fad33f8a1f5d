import Derived.Test.YtcknoadoeonbjaaKCrcL
import Derived.Test.YtcknoadoeonbjaaKCrcPure2
import Derived.Deep.QuietTactic
import Derived.BigQuiet
namespace Go.Proofs.YtcknoadoeonbjaaK
open Go.RowKit
set_option linter.unusedSimpArgs false
set_option linter.unusedVariables false
theorem i64_and_mask (x : Int) : bits .and .i64 x 65535 = ((x % 65536).toNat : Int) := by
  show IntKind.i64.wrap (((BitVec.ofInt 64 x) &&& (BitVec.ofInt 64 65535)).toNat : Int) = _
  rw [BitVec.toNat_and, BitVec.toNat_ofInt, BitVec.toNat_ofInt]
  have h1 : ((65535 : Int) % ((2 ^ 64 : Nat) : Int)).toNat = 2 ^ 16 - 1 := by decide
  rw [h1, Nat.and_two_pow_sub_one_eq_mod, IntKind.wrap_i64]
  omega
theorem bitB_toNat : ∀ i : Fin 8, (bitB i.val).toNat = 2 ^ i.val := by decide +kernel
theorem u8_xor (a b : UInt8) : bits .xor .u8 (a.toNat : Int) (b.toNat : Int) = ((a ^^^ b).toNat : Int) := by
  have ha : BitVec.ofInt 8 (a.toNat : Int) = a.toBitVec := by rw [BitVec.ofInt_natCast]; simp
  have hb : BitVec.ofInt 8 (b.toNat : Int) = b.toBitVec := by rw [BitVec.ofInt_natCast]; simp
  show IntKind.u8.wrap (((BitVec.ofInt 8 (a.toNat : Int)) ^^^ (BitVec.ofInt 8 (b.toNat : Int))).toNat : Int) = _
  rw [ha, hb, IntKind.wrap_u8]
  have h := (a ^^^ b).toNat_lt
  have h2 : (a.toBitVec ^^^ b.toBitVec).toNat = (a ^^^ b).toNat := by
    rw [UInt8.toNat_xor, BitVec.toNat_xor]; rfl
  rw [h2]
  omega
/-- The store's value, as the walk spells it. -/
theorem u8_turn (b : UInt8) (x : Nat) : bits .xor .u8 (b.toNat : Int) ((2 : Int) ^ (x % 8) % 256) = ((b ^^^ bitB (x % 8)).toNat : Int) := by
  have h8 : x % 8 < 8 := Nat.mod_lt _ (by decide)
  have h := bitB_toNat ⟨x % 8, h8⟩
  simp only at h
  have h2 : ((2 : Int) ^ (x % 8) % 256) = ((bitB (x % 8)).toNat : Int) := by
    rw [h]
    have h3 : 2 ^ (x % 8) < 256 := by
      have := Nat.pow_le_pow_right (show 0 < 2 by decide) (show x % 8 ≤ 7 by omega)
      omega
    have h4 : ((2 : Int) ^ (x % 8)) = ((2 ^ (x % 8) : Nat) : Int) := by simp
    rw [h4]
    omega
  rw [h2, u8_xor]
/-- A row of bytes with one bit turned. -/
theorem own_turn {w : World} {base g n c : Nat} {e : TypeId} {xs : List UInt8} (h : w.ownsRow base e 1 (.slice (some ⟨g, 0, none⟩) n c) n (xs.map encB)) (x : Nat) (b : UInt8) (hb : b = xs.getD (x / 8) 0) :
    (w.setCell ⟨g, x / 8, none⟩ (.int .u8 (bits .xor .u8 (b.toNat : Int) ((2 : Int) ^ (x % 8) % 256)))).ownsRow base e 1 (.slice (some ⟨g, 0, none⟩) n c) n ((turn xs x).map encB) := by
  rw [u8_turn]
  have h1 := (h.stored (x / 8) (encB (b ^^^ bitB (x % 8)))).1
  unfold turn
  rw [List.map_set, ← hb]
  exact h1
set_option maxHeartbeats 1000000 in
theorem crcTurns_walk (i k : Int) (A : Option Addr) (n cap : Nat) (xs : List UInt8) (w : World) (hn : n = xs.length) (hX : Bs w (.slice A n cap) xs) :
    Calls Try.prog 10 #[.slice A n cap, .int .i64 i, .int .i64 k] w fun e w' => e = .returned (.bool true) ∧ Below w.heap.size w w' := by
  have HN := Lib.hid hn
  clear hn
  by_cases h50 : n = 0 ∨ 256 < n
  · have h51 : ((n : Int) == 0) = true ∨ 256 < n := by
      rcases h50 with h | h
      · left; rw [h]; rfl
      · exact .inr h
    clear h50
    rcases h51 with h | h
    · go_enter Try.func10, Try.ntmps10
      go_wp2_with (go_at_call 28; refine (crc_speaks _).mono ?_; rintro e w' ⟨rfl, hb⟩)
      all_goals
        go_ret
        exact ⟨rfl, ‹_›⟩
    · have h0 : ((n : Int) == 0) = false := by rw [beq_eq_false_iff_ne]; omega
      go_enter Try.func10, Try.ntmps10
      go_wp2_with (go_at_call 28; refine (crc_speaks _).mono ?_; rintro e w' ⟨rfl, hb⟩)
      all_goals
        go_ret
        exact ⟨rfl, ‹_›⟩
  have hb1 : n ≤ 256 := by omega
  have hb2 : 0 < n := by omega
  have h0 : ((n : Int) == 0) = false := by rw [beq_eq_false_iff_ne]; omega
  clear h50
  obtain ⟨p, hp⟩ : ∃ p : Nat, p = (i % 65536).toNat := ⟨_, rfl⟩
  obtain ⟨q, hq⟩ : ∃ p : Nat, p = (k % 65536).toNat := ⟨_, rfl⟩
  have hpi : bits .and .i64 i 65535 = (p : Int) := by rw [i64_and_mask, hp]
  have hqi : bits .and .i64 k 65535 = (q : Int) := by rw [i64_and_mask, hq]
  have hp2 : p < 65536 := by omega
  have hq2 : q < 65536 := by omega
  clear hp hq
  obtain ⟨X, hX0⟩ : ∃ X : Nat, X = p % (8 * n) := ⟨_, rfl⟩
  obtain ⟨Y, hY0⟩ : ∃ X : Nat, X = q % (8 * n) := ⟨_, rfl⟩
  have hXe : (p : Int) % (8 * (n : Int)) = (X : Int) := by rw [hX0]; simp
  have hYe : (q : Int) % (8 * (n : Int)) = (Y : Int) := by rw [hY0]; simp
  have hXl : X < 8 * n := by rw [hX0]; exact Nat.mod_lt _ (by omega)
  have hYl : Y < 8 * n := by rw [hY0]; exact Nat.mod_lt _ (by omega)
  clear hX0 hY0
  have HXL := Lib.hid hX.cells
  obtain ⟨b, hbx⟩ : ∃ b, b = xs.getD (X / 8) 0 := ⟨_, rfl⟩
  have hXn : X / 8 < xs.length := by rw [← HN.out]; omega
  have hbX := Lib.hid (show (xs.map encB)[X / 8]? = some (.int .u8 (b.toNat : Int)) from by rw [List.getElem?_map, List.getElem?_eq_getElem hXn, hbx, List.getD_eq_getElem?_getD, List.getElem?_eq_getElem hXn]; rfl)
  have HBX := Lib.hid hbx
  obtain ⟨d, hdy⟩ : ∃ b, b = (turn xs X).getD (Y / 8) 0 := ⟨_, rfl⟩
  have hYn : Y / 8 < (turn xs X).length := by rw [turn_length, ← HN.out]; omega
  have hdY := Lib.hid (show ((turn xs X).map encB)[Y / 8]? = some (.int .u8 (d.toNat : Int)) from by rw [List.getElem?_map, List.getElem?_eq_getElem hYn, hdy, List.getD_eq_getElem?_getD, List.getElem?_eq_getElem hYn]; rfl)
  have HDY := Lib.hid hdy
  clear hbx hXn hdy hYn
  have hb8 := b.toNat_lt
  have hd8 := d.toNat_lt
  obtain ⟨r0, hr0⟩ : ∃ r, ((crcF 0#32 xs).toNat : Int) = r := ⟨_, rfl⟩
  obtain ⟨r1, hr1⟩ : ∃ r, ((crcF 0#32 (turn xs X)).toNat : Int) = r := ⟨_, rfl⟩
  obtain ⟨r2, hr2⟩ : ∃ r, ((crcF 0#32 (turn (turn xs X) Y)).toNat : Int) = r := ⟨_, rfl⟩
  have t1 : (r1 == r0) = false := by
    rw [beq_eq_false_iff_ne, ← hr1, ← hr0]
    intro h
    exact turn_ne 0#32 xs X (by rw [← HN.out]; exact hXl) (BitVec.eq_of_toNat_eq (by omega))
  obtain ⟨yes, t2, t3⟩ : ∃ yes : Bool, (r2 == r0) = yes ∧ ((X : Int) == (Y : Int)) = yes := by
    have h := turn_turn 0#32 xs X Y (by rw [← HN.out]; exact hb1) (by rw [← HN.out]; exact hXl) (by rw [← HN.out]; exact hYl)
    by_cases hxy : X = Y
    · refine ⟨true, ?_, by simp [hxy]⟩
      rw [beq_iff_eq, ← hr2, ← hr0, h.2 hxy]
    · refine ⟨false, ?_, by rw [beq_eq_false_iff_ne]; omega⟩
      rw [beq_eq_false_iff_ne, ← hr2, ← hr0]
      intro h'
      exact hxy (h.1 (BitVec.eq_of_toNat_eq (by omega)))
  have HR0 := Lib.hid hr0
  have HR1 := Lib.hid hr1
  have HR2 := Lib.hid hr2
  clear hr0 hr1 hr2
  go_enter Try.func10, Try.ntmps10
  go_wp2_with (go_at_call 28; refine (crc_speaks _).mono ?_; rintro e w1 ⟨rfl, hb⟩)
  go_quiet (fail)
  obtain ⟨W, hWd⟩ : ∃ W, W = w1.drewN nq := ⟨_, rfl⟩
  have hbW : Below w.heap.size w W := by rw [hWd]; exact ⟨hb.os, hb.tape, hb.output, hb.size, hb.block⟩
  rw [← hWd]
  simp only [hXe, hYe]
  clear hWd hb hpi hqi hXe hYe
  have hat := own_empty (w := W) (b := W.heap.size) (base := w.heap.size) (e := 5) (size := 1) rfl hbW.size
  have hb3 := hbW.alloc hbW.size (.cells #[] 5)
  have hA := (hX.below hb3).at
  go_wp2_with (at_builtin; refine wp_append w.heap.size rfl _ _ 24 5 (.int .u8 0) 1 1 rfl Try.underlying24 info5 rfl (by decide) (by decide) (.slice (some ⟨W.heap.size, 0, none⟩) 0 0) 0 [] A n cap (xs.map encB) rfl rfl hat hA HXL.out (encB_all xs) hb3.size (by omega) ?_; intro v1 w2 ho1 hg1 ha1; have hb4 := below_grown hb3 hat hg1 hb3.size; clear hat hA hg1 ha1; rw [Nat.zero_add, List.nil_append] at ho1; obtain ⟨g, c1, rfl, hc1, hg0, hg1, hn63⟩ := own_pos ho1 hb2; obtain ⟨hcell, hfr⟩ := own_cell ho1 (X / 8) (.int .u8 (b.toNat : Int)) hbX.out)
  obtain ⟨w3, hw3⟩ : ∃ w3, w3 = w2.setCell ⟨g, X / 8, none⟩ (.int .u8 (bits .xor .u8 (b.toNat : Int) ((2 : Int) ^ (X % 8) % 256))) := ⟨_, rfl⟩
  have ho3 : w3.ownsRow w.heap.size 5 1 (.slice (some ⟨g, 0, none⟩) n c1) n ((turn xs X).map encB) := by rw [hw3]; exact own_turn ho1 X b HBX.out
  have hb5 : Below w.heap.size w w3 := by rw [hw3]; exact hb4.setCell hg0 _
  have hz : w3.heap.size = w2.heap.size := by rw [hw3]; simp
  rw [← hw3, ← hz]
  clear hw3 hz hg1 ho1 hb4 hcell hfr
  refine Calls.mono (sum_r r1 _ _ _ [turn xs X] _ rfl (Bss.new1 (by first | rfl | simp) (own_bs ho3).2) (by rw [← HR1.out]; simp)) ?_
  rintro e w4 ⟨rfl, rfl⟩
  go_wp2_with fail
  refine Calls.mono (sum_r r0 _ _ _ [xs] _ rfl (Bss.new1 (by first | rfl | simp) ((hX.below hb5).alloc _)) (by rw [← HR0.out]; simp)) ?_
  rintro e w4 ⟨rfl, rfl⟩
  obtain ⟨w5, hw5⟩ : ∃ w5, w5 = (w3.alloc (Obj.cells #[Value.slice (some ⟨g, 0, none⟩) n c1] 24)).alloc (Obj.cells #[Value.slice A n cap] 24) := ⟨_, rfl⟩
  have hb6 : Below w.heap.size w w5 := by rw [hw5]; exact (hb5.alloc hb5.size _).alloc (by have := hb5.size; simp; omega) _
  have ho5 : w5.ownsRow w.heap.size 5 1 (.slice (some ⟨g, 0, none⟩) n c1) n ((turn xs X).map encB) := by rw [hw5]; exact (ho3.alloc _).alloc _
  rw [← hw5]
  clear hw5 ho3 hb5
  obtain ⟨hcell, hfr⟩ := own_cell ho5 (Y / 8) (.int .u8 (d.toNat : Int)) hdY.out
  go_wp2_with fail
  obtain ⟨w6, hw6⟩ : ∃ w6, w6 = w5.setCell ⟨g, Y / 8, none⟩ (.int .u8 (bits .xor .u8 (d.toNat : Int) ((2 : Int) ^ (Y % 8) % 256))) := ⟨_, rfl⟩
  have ho7 : w6.ownsRow w.heap.size 5 1 (.slice (some ⟨g, 0, none⟩) n c1) n ((turn (turn xs X) Y).map encB) := by rw [hw6]; exact own_turn ho5 Y d HDY.out
  have hb7 : Below w.heap.size w w6 := by rw [hw6]; exact hb6.setCell hg0 _
  have hz : w6.heap.size = w5.heap.size := by rw [hw6]; simp
  rw [← hw6, ← hz]
  clear hw6 hz ho5 hb6 hcell hfr
  refine Calls.mono (sum_r r2 _ _ _ [turn (turn xs X) Y] _ rfl (Bss.new1 (by first | rfl | simp) (own_bs ho7).2) (by rw [← HR2.out]; simp)) ?_
  rintro e w8 ⟨rfl, rfl⟩
  go_wp2_with fail
  refine Calls.mono (sum_r r0 _ _ _ [xs] _ rfl (Bss.new1 (by first | rfl | simp) ((hX.below hb7).alloc _)) (by rw [← HR0.out]; simp)) ?_
  rintro e w8 ⟨rfl, rfl⟩
  go_wp2_with fail
  go_ret
  exact ⟨rfl, (hb7.alloc hb7.size _).alloc (by have := hb7.size; simp; omega) _⟩
end Go.Proofs.YtcknoadoeonbjaaK

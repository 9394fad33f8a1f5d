import Derived.Test.YtcknoadoeonbjaaKCrcT
namespace Go.Proofs.YtcknoadoeonbjaaK
open Go.RowKit
set_option linter.unusedSimpArgs false
set_option linter.unusedVariables false
theorem bit_test (p : B32) (j : Nat) : (bits .and .u32 ((p.toNat : Int) / (2 : Int) ^ j) 1 == (1 : Int)) = p.getLsbD j := by
  have h0 : ((p.toNat : Int) / (2 : Int) ^ j) = ((p >>> j).toNat : Int) := by
    rw [BitVec.toNat_ushiftRight, Nat.shiftRight_eq_div_pow]
    simp
  have h1 : bits .and .u32 ((p >>> j).toNat : Int) 1 = (((p >>> j) &&& 1#32).toNat : Int) := u32_and _ 1#32
  have h2 : (p >>> j).getLsbD 0 = p.getLsbD j := by rw [BitVec.getLsbD_ushiftRight]; rfl
  rw [h0, h1, and_one, h2]
  cases p.getLsbD j <;> rfl
set_option maxHeartbeats 1000000 in
theorem crcBursts_walk (i s : Int) (p : B32) (hs : s = (p.toNat : Int)) (A : Option Addr) (n cap : Nat) (xs : List UInt8) (w : World) (hn : n = xs.length) (hX : Bs w (.slice A n cap) xs) :
    Calls Try.prog 11 #[.slice A n cap, .int .i64 i, .int .u32 s] w fun e w' => e = .returned (.bool true) ∧ Below w.heap.size w w' := by
  have HN := Lib.hid hn
  have HS := Lib.hid hs
  clear hn hs
  have hs0 : IntKind.u32.signed = false := rfl
  by_cases h50 : n < 5 ∨ 1000 < n ∨ s = 0
  · obtain ⟨z, hz⟩ : ∃ z : Bool, (s == (0 : Int)) = z := ⟨_, rfl⟩
    have h51 : n < 5 ∨ 1000 < n ∨ z = true := by
      rcases h50 with h | h | h
      · exact .inl h
      · exact .inr (.inl h)
      · exact .inr (.inr (by rw [← hz, h]; rfl))
    clear h50
    by_cases ha : n < 5
    · go_enter Try.func11, Try.ntmps11
      go_wp2_with (go_at_call 28; refine (crc_speaks _).mono ?_; rintro e w' ⟨rfl, hb⟩)
      all_goals
        go_ret
        exact ⟨rfl, ‹_›⟩
    by_cases hb' : 1000 < n
    · go_enter Try.func11, Try.ntmps11
      go_wp2_with (go_at_call 28; refine (crc_speaks _).mono ?_; rintro e w' ⟨rfl, hb⟩)
      all_goals
        go_ret
        exact ⟨rfl, ‹_›⟩
    obtain rfl : z = true := by rcases h51 with h | h | h <;> first | omega | exact h
    go_enter Try.func11, Try.ntmps11
    go_wp2_with (go_at_call 28; refine (crc_speaks _).mono ?_; rintro e w' ⟨rfl, hb⟩)
    all_goals
      go_ret
      exact ⟨rfl, ‹_›⟩
  have hb1 : n ≤ 1000 := by omega
  have hb2 : 5 ≤ n := by omega
  have h0 : (s == (0 : Int)) = false := by rw [beq_eq_false_iff_ne]; omega
  have hp0 : p ≠ 0#32 := by
    rintro rfl
    exact h50 (.inr (.inr HS.out))
  clear h50
  obtain ⟨q, hq⟩ : ∃ p : Nat, p = (i % 65536).toNat := ⟨_, rfl⟩
  have hqi : bits .and .i64 i 65535 = (q : Int) := by rw [i64_and_mask, hq]
  have hq2 : q < 65536 := by omega
  clear hq
  obtain ⟨X, hX0⟩ : ∃ X : Nat, X = q % (8 * n - 31) := ⟨_, rfl⟩
  have hXe : (q : Int) % (8 * (n : Int) - 31) = (X : Int) := by
    rw [hX0]
    have : (8 * (n : Int) - 31) = ((8 * n - 31 : Nat) : Int) := by omega
    rw [this]; simp
  have hXl : X + 32 ≤ 8 * n := by
    have : X < 8 * n - 31 := by rw [hX0]; exact Nat.mod_lt _ (by omega)
    omega
  clear hX0
  have HXL := Lib.hid hX.cells
  obtain ⟨r0, hr0⟩ : ∃ r, ((crcF 0#32 xs).toNat : Int) = r := ⟨_, rfl⟩
  obtain ⟨r1, hr1⟩ : ∃ r, ((crcF 0#32 (turnsTo xs X p 32)).toNat : Int) = r := ⟨_, rfl⟩
  have t1 : (r1 != r0) = true := by
    rw [bne_iff_ne, ← hr1, ← hr0]
    intro h
    exact burst_ne 0#32 xs X p (by rw [← HN.out]; exact hXl) hp0 (BitVec.eq_of_toNat_eq (by omega))
  have HR0 := Lib.hid hr0
  have HR1 := Lib.hid hr1
  clear hr0 hr1
  have hn0 : ¬ (8 * (n : Int) - 31 = 0) := by omega
  go_enter Try.func11, Try.ntmps11
  go_wp2_with (first | (go_at_call 28; refine (crc_speaks _).mono ?_; rintro e w1 ⟨rfl, hb⟩; have hat := own_empty (w := w1) (b := w1.heap.size) (base := w.heap.size) (e := 5) (size := 1) rfl hb.size; have hb3 := hb.alloc hb.size (.cells #[] 5); have hA := (hX.below hb3).at) | (at_builtin; simp only [hXe]; refine wp_append w.heap.size rfl _ _ 24 5 (.int .u8 0) 1 1 rfl Try.underlying24 info5 rfl (by decide) (by decide) (.slice (some ⟨w1.heap.size, 0, none⟩) 0 0) 0 [] A n cap (xs.map encB) rfl rfl hat hA HXL.out (encB_all xs) hb3.size (by omega) ?_; intro v1 w2 ho1 hg1 ha1; have hb4 := below_grown hb3 hat hg1 hb3.size; clear hat hA hg1 ha1 hXe hqi; rw [Nat.zero_add, List.nil_append] at ho1; obtain ⟨g, c1, rfl, hc1, hg0, hg1, hn63⟩ := own_pos ho1 (by omega)))
  go_loopw [9] (fun j wr => ∃ m : Nat, m ≤ 32 ∧ j = .int .i64 m ∧ wr.ownsRow w.heap.size 5 1 (.slice (some ⟨g, 0, none⟩) n c1) n ((turnsTo xs X p m).map encB) ∧ Below w.heap.size w wr) (fun j _ => 32 - (intOf j).toNat)
  case atStart => exact ⟨0, by omega, rfl, ho1, hb4⟩
  case round =>
    obtain ⟨m, hm, rfl, hor, hbr⟩ := hrel
    by_cases hlt : m < 32
    · obtain ⟨z, hz⟩ : ∃ z, p.getLsbD m = z := ⟨_, rfl⟩
      have ht : (bits .and .u32 (s / (2 : Int) ^ m) 1 == (1 : Int)) = z := by rw [HS.out, bit_test]; exact hz
      have HZ := Lib.hid hz
      clear hz ho1 hb4
      cases z
      · go_wp2
        go_roundw
        case rel => exact ⟨m + 1, by omega, by go_num, by simp only [turnsTo, HZ.out]; exact hor, hbr⟩
        case measure => simp [intOf]; omega
      · obtain ⟨b, hbx⟩ : ∃ b, b = (turnsTo xs X p m).getD ((X + m) / 8) 0 := ⟨_, rfl⟩
        have hXn : (X + m) / 8 < (turnsTo xs X p m).length := by rw [turnsTo_length, ← HN.out]; omega
        have hbX : ((turnsTo xs X p m).map encB)[(X + m) / 8]? = some (.int .u8 (b.toNat : Int)) := by rw [List.getElem?_map, List.getElem?_eq_getElem hXn, hbx, List.getD_eq_getElem?_getD, List.getElem?_eq_getElem hXn]; rfl
        obtain ⟨hcell, hfr⟩ := own_cell hor ((X + m) / 8) (.int .u8 (b.toNat : Int)) hbX
        have HBX := Lib.hid hbx
        clear hbx hXn hbX
        have hb8 := b.toNat_lt
        go_wp2
        go_roundw
        case rel => exact ⟨m + 1, by omega, by go_num, by simp only [turnsTo, HZ.out]; exact own_turn hor (X + m) b HBX.out, hbr.setCell hg0 _⟩
        case measure => simp [intOf]; omega
    · obtain rfl : m = 32 := by omega
      clear ho1 hb4
      go_wp2_with fail
      refine Calls.mono (sum_r r1 _ _ _ [turnsTo xs X p 32] _ rfl (Bss.new1 (by first | rfl | simp) (own_bs hor).2) (by rw [← HR1.out]; simp)) ?_
      rintro e w8 ⟨rfl, rfl⟩
      go_wp2_with fail
      refine Calls.mono (sum_r r0 _ _ _ [xs] _ rfl (Bss.new1 (by first | rfl | simp) ((hX.below hbr).alloc _)) (by rw [← HR0.out]; simp)) ?_
      rintro e w8 ⟨rfl, rfl⟩
      go_wp2_with fail
      go_ret
      exact ⟨rfl, (hbr.alloc hbr.size _).alloc (by have := hbr.size; simp; omega) _⟩
end Go.Proofs.YtcknoadoeonbjaaK

import Derived.Test.YtcknoadoeonbjaaKPackBk
import Derived.Test.YtcknoadoeonbjaaKPackJn
import Derived.Deep.QuietTactic
import Derived.BigQuiet
namespace Go.Proofs.YtcknoadoeonbjaaK
open Go.RowKit
set_option linter.unusedSimpArgs false
set_option linter.unusedVariables false
/-- A number that lies ahead is read, as far as its bytes hold it. -/
theorem rnum_mod (b D : Nat) (N : Nat) (rest : List UInt8) (bad : Bool) (s : Int) (w : World) (h : Rdr w b D (numB (wid s) N ++ rest) bad) (hl : (numB (wid s) N ++ rest).length ≤ 140737488355328) :
    Calls Try.prog 21 #[.pointer (some ⟨b, 0, none⟩), .int .i64 s] w fun e w' => e = .returned (.int .u64 ((N % 256 ^ wid s : Nat) : Int)) ∧ Rdr w' b D rest bad ∧ w.grownBy w' (some b) := by
  refine (rnum_any b D _ bad s w h hl).mono ?_
  have hm : max ((wid s : Nat) : Int) 0 = ((numB (wid s) N).length : Int) := by rw [numB_length]; omega
  rw [rdTake_app _ _ _ hm, rdLeft_app _ _ _ hm, rdBad_app _ _ _ _ hm, numV_numB]
  exact fun e w' h => h
theorem mask_mod (k N : Nat) (hk : k < 8) (hN : N < 18446744073709551616) :
    bits .and .u64 (N : Int) (IntKind.u64.wrap (IntKind.u64.wrap ((2 : Int) ^ (8 * k)) - 1)) = ((N % 256 ^ k : Nat) : Int) := by
  have hp : 256 ^ k = 2 ^ (8 * k) := by rw [Nat.pow_mul]
  have h7 : 2 ^ (8 * k) ≤ 72057594037927936 := by
    have := Nat.pow_le_pow_right (show 0 < 2 by decide) (show 8 * k ≤ 56 by omega)
    exact Nat.le_trans this (by decide)
  have h1 : 0 < 2 ^ (8 * k) := Nat.pow_pos (by decide)
  have e1 : IntKind.u64.wrap (IntKind.u64.wrap ((2 : Int) ^ (8 * k)) - 1) = ((2 ^ (8 * k) - 1 : Nat) : Int) := by
    have e0 : ((2 : Int) ^ (8 * k)) = ((2 ^ (8 * k) : Nat) : Int) := by simp
    rw [e0, IntKind.wrap_u64, IntKind.wrap_u64]
    generalize 2 ^ (8 * k) = z at h7 h1 ⊢
    omega
  rw [e1, bits_and_u64_nat N _ hN (by omega), Nat.and_two_pow_sub_one_eq_mod, hp]
set_option maxHeartbeats 2000000 in
theorem packNums_walk (s : Int) (B : Option Addr) (m cap2 : Nat) (xs : List Int) (w : World) (hY : Is .u64 w (.slice B m cap2) xs) (hwf : ∀ x ∈ xs, 0 ≤ x ∧ x < 18446744073709551616) :
    Calls Try.prog 4 #[.int .i64 s, .slice B m cap2] w fun e w' => e = .returned (.bool true) ∧ Below w.heap.size w w' := by
  have HM := Lib.hid hY.len
  by_cases h50 : 1000 < m
  · clear hY
    go_enter Try.func4, Try.ntmps4
    go_wp2_with (go_at_call 15; refine (pack_speaks _).mono ?_; rintro e w' ⟨rfl, hb⟩)
    go_ret
    exact ⟨rfl, ‹_›⟩
  have HW := Lib.hid hwf
  clear hwf
  go_enter Try.func4, Try.ntmps4
  go_wp2_with (go_at_call 15; refine (pack_speaks _).mono ?_; rintro e w1 ⟨rfl, hb⟩)
  have hat := own_empty (w := w1) (b := w1.heap.size) (base := w.heap.size) (e := 5) (size := 1) rfl hb.size
  have hb3 := hb.alloc hb.size (.cells #[] 5)
  clear hb
  have hwl := wid_le s
  go_loopw [5, 7, 8, 22] (fun v5 v7 v8 i wr => ∃ (k l : Nat) (A5 : Option Addr) (c5 : Nat), k ≤ m ∧ l ≤ 8 * k ∧ i = .int .i64 k ∧ v5 = .slice A5 l c5 ∧ wr.ownsRow w.heap.size 5 1 v5 l ((numsB (wid s) (xs.take k)).map encB) ∧ Below w.heap.size w wr) (fun _ _ _ i _ => m - (intOf i).toNat)
  case atStart => exact ⟨0, 0, _, _, Nat.zero_le _, Nat.zero_le _, rfl, rfl, hat, hb3⟩
  case round =>
    obtain ⟨k, l, A5, c5, hk, hl, rfl, rfl, ho, hbr⟩ := hrel
    clear hat hb3
    by_cases hlt : k < m
    · have hkx : k < xs.length := by rw [← HM.out]; exact hlt
      obtain ⟨a, rfl, hcell⟩ := (hY.below hbr).at.map k hkx
      obtain ⟨N, hN⟩ : ∃ N : Nat, xs[k] = (N : Int) := ⟨xs[k].toNat, by have := (HW.out xs[k] (List.getElem_mem _)).1; omega⟩
      have hNl : N < 18446744073709551616 := by have := (HW.out xs[k] (List.getElem_mem _)).2; omega
      rw [hN] at hcell
      have HN := Lib.hid hN
      clear hN
      have hsz := hbr.size
      have HA := Lib.hid (fun W => num_any s N W hNl)
      have HB := Lib.hid (fun W => refnum_any s N W hNl)
      go_wp2_with (go_at_call 16; refine (HA.out _).mono ?_; rintro e w2 ⟨v, rfl, ho2, hb2⟩; obtain ⟨A6, c6, rfl, _, _⟩ := own_form ho2; have hk2 := own_below ho hb2; have hbb := hbr.trans (hb2.mono hsz))
      have hsA := run_str (own_bs (World.ownsRow.drew ho2)).2
      go_region_with (go_at_call 17; refine (HB.out _).mono ?_; rintro e w3 ⟨v, rfl, ho3, hb3⟩; obtain ⟨A7, c7, rfl, _, _⟩ := own_form ho3; have hsB := run_str (own_bs ho3).2; have ho23 := own_below (World.ownsRow.drew ho2) hb3; have hsC := run_str (own_bs ho23).2; have hk3 := own_below (World.ownsRow.drew hk2) hb3; have hbc := hbb.drew.trans (hb3.mono hbb.drew.size))
      all_goals
        have hat6 := own_at ho23
        have HL6 := Lib.hid (own_bs ho23).1
        clear hsA hsB hsC ho3
        go_wp2_with (at_builtin; refine wp_append w.heap.size rfl _ _ 24 5 (.int .u8 0) 1 1 rfl Try.underlying24 info_u8 rfl (by decide) (by decide) (.slice A5 l c5) l _ A6 (wid s) c6 _ rfl rfl hk3 hat6 (by simpa using HL6.out.symm) (encB_all _) hbc.size (by omega) ?_; intro v1 w4 ho4 hg4 ha4; have hbd := below_grown hbc hk3 hg4 hbc.size; obtain ⟨A8, c8, rfl, _, _⟩ := own_form ho4)
        go_roundw
        case rel => exact ⟨k + 1, l + wid s, A8, c8, by omega, by omega, by go_num, rfl, by rw [List.take_succ_eq_append_getElem hkx, numsB_snoc, HN.out, List.map_append]; exact ho4, hbd⟩
        case measure => simp [intOf]; omega
    · obtain rfl : k = m := by omega
      have hxt : xs.take k = xs := List.take_of_length_le (by rw [← HM.out]; exact Nat.le_refl _)
      rw [hxt] at ho
      have hlen := (own_bs ho).1
      rw [numsB_length] at hlen
      have HLN := Lib.hid hlen
      have hYk := hY.below hbr
      have hsz := hbr.size
      have HC := Lib.hid (nums_any s B k cap2 xs wr hYk HW.out (by omega))
      clear hxt hlen
      go_wp2_with (first
        | (go_at_call 18; refine HC.out.mono ?_; rintro e w2 ⟨v, m2, rfl, ho2, hb2⟩; obtain ⟨A6, c6, rfl, _, hm2⟩ := own_form ho2; have HL2 := Lib.hid (own_bs ho2).1; have hbb := hbr.trans (hb2.mono hsz); have hk2 := own_below ho hb2)
        | (go_at_call 19; refine (new_any _ _ _ _ _ (own_bs ho2).2 (by rw [HL2.out, numsB_length, ← HM.out]; exact Nat.le_trans (Nat.mul_le_mul hwl (Nat.le_refl _)) (by omega))).mono ?_; rintro e w3 ⟨b, D, rfl, hb0, hDl, hDb, hr, hb3⟩; have hbc := hbb.trans (hb3.mono hbb.size); have ho3 := own_below ho2 hb3; have hk3 := own_below hk2 hb3; have hs1 := run_str (own_bs ho3).2; have hs2 := run_str (own_bs hk3).2))
      obtain ⟨w9, hw9⟩ : ∃ wo : World, wo = w3 := ⟨_, rfl⟩
      rw [← hw9] at hr hbc
      rw [← hw9]
      have hbb2 : w.heap.size ≤ b := by have := hbb.size; omega
      clear hw9 hs1 hs2 ho3 hk3 hb3 hb2 hbb hk2 ho2 ho hbr hYk hsz
      go_loopw [12, 13, 56] (fun v12 v13 i wr => ∃ j : Nat, j ≤ k ∧ i = .int .i64 j ∧ Rdr wr b D (numsB (wid s) (xs.drop j)) false ∧ Below w.heap.size w wr) (fun _ _ i _ => k - (intOf i).toNat)
      case atStart => exact ⟨0, Nat.zero_le _, rfl, hr, hbc⟩
      case round =>
        obtain ⟨j, hj, rfl, hrj, hbj⟩ := hrel
        clear hr hbc
        by_cases hlj : j < k
        · have hjx : j < xs.length := by rw [← HM.out]; exact hlj
          obtain ⟨a, rfl, hcell⟩ := (hY.below hbj).at.map j hjx
          obtain ⟨N, hN⟩ : ∃ N : Nat, xs[j] = (N : Int) := ⟨xs[j].toNat, by have := (HW.out xs[j] (List.getElem_mem _)).1; omega⟩
          have hNl : N < 18446744073709551616 := by have := (HW.out xs[j] (List.getElem_mem _)).2; omega
          rw [hN] at hcell
          rw [List.drop_eq_getElem_cons hjx, numsB_cons, hN, Int.toNat_natCast] at hrj
          have hll : (numB (wid s) N ++ numsB (wid s) (xs.drop (j + 1))).length ≤ 140737488355328 := by
            rw [List.length_append, numB_length, numsB_length, List.length_drop, ← HM.out]
            have : wid s * (k - (j + 1)) ≤ 8 * 1000 := Nat.mul_le_mul hwl (by omega)
            omega
          clear hN
          have HR := Lib.hid (fun W hR => rnum_mod b D N _ false s W hR hll)
          have HSz := Lib.hid (fun W => refsize_any s W)
          obtain ⟨M, hM⟩ : ∃ M : Nat, M = N % 256 ^ wid s := ⟨_, rfl⟩
          rw [← hM] at HR
          by_cases h8 : wid s < 8
          · have hmask := mask_mod (wid s) N h8 hNl
            rw [← hM] at hmask
            clear hM
            go_wp2_with (first
              | (go_at_call 20; refine (HSz.out _).mono ?_; rintro e w2 ⟨rfl, rfl⟩)
              | (go_at_call 21; refine (HR.out _ (by exact hrj)).mono ?_; rintro e w2 ⟨rfl, hr2, hg2⟩; have hb2 := below_row hbj hg2 hbj.size hbb2))
            go_roundw
            case rel => exact ⟨j + 1, by omega, by go_num, hr2, hb2⟩
            case measure => simp [intOf]; omega
          · have hw8 : wid s = 8 := by omega
            have hMN : M = N := by rw [hM, hw8]; exact Nat.mod_eq_of_lt (by omega)
            subst hMN
            clear hM hw8
            go_wp2_with (first
              | (go_at_call 20; refine (HSz.out _).mono ?_; rintro e w2 ⟨rfl, rfl⟩)
              | (go_at_call 21; refine (HR.out _ (by exact hrj)).mono ?_; rintro e w2 ⟨rfl, hr2, hg2⟩; have hb2 := below_row hbj hg2 hbj.size hbb2))
            go_roundw
            case rel => exact ⟨j + 1, by omega, by go_num, hr2, hb2⟩
            case measure => simp [intOf]; omega
        · obtain rfl : j = k := by omega
          have hdn : xs.drop j = [] := List.drop_of_length_le (by rw [← HM.out]; exact Nat.le_refl _)
          rw [hdn] at hrj
          have hL := Lib.hid (left_any b D _ _ wr hrj)
          have hB := Lib.hid (bad_any b D _ _ wr hrj)
          rw [show (numsB (wid s) ([] : List Int)).length = 0 from rfl] at hL
          clear hrj hdn
          go_wp2_with (first | (go_at_call 22; refine hL.out.mono ?_; rintro e w8 ⟨rfl, rfl⟩) | (go_at_call 23; refine hB.out.mono ?_; rintro e w8 ⟨rfl, rfl⟩))
          go_ret
          exact ⟨rfl, hbj⟩
end Go.Proofs.YtcknoadoeonbjaaK

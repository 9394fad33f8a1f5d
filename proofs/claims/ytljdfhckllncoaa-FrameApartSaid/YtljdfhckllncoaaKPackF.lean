import Derived.Test.YtljdfhckllncoaaKPackE
namespace Go.Proofs.YtljdfhckllncoaaK
open Go.RowKit
set_option linter.unusedSimpArgs false
set_option linter.unusedVariables false
theorem ebytes_any (b : Nat) (A : Option Addr) (n c i : Nat) (bs : List UInt8) (bad : Bool) (s : Int) (w : World) (h : Eye w b A n c i bad) (hi : i ≤ n) (hn : n ≤ 140737488355328) (hX : Bs w (.slice A n c) bs) :
    Calls Try.prog 63 #[.pointer (some ⟨b, 0, none⟩), .int .i64 s] w fun e w' => ∃ v m i', e = .returned v ∧ w'.ownsRow w.heap.size 5 1 v m ((rdTake (bs.drop i) s).map encB) ∧ Eye w' b A n c i' (rdBad (bs.drop i) bad s) ∧ i' ≤ n ∧ bs.drop i' = rdLeft (bs.drop i) s ∧ w.grownBy w' (some b) := by
  have hl := hX.len
  unfold rdTake rdBad rdLeft
  by_cases hs : s < 0
  · refine (ebytes_neg b A n c i bad s w h hs).mono ?_
    rintro e w' ⟨v, rfl, h1, h2, h3⟩
    have hm : max s 0 = 0 := by omega
    rw [hm, if_neg (by omega), if_neg (by omega), if_neg (by omega)]
    exact ⟨v, 0, i, rfl, h1, h2, hi, rfl, h3⟩
  · by_cases ho : (n : Int) - i < s
    · refine (ebytes_over b A n c i bad s w h (by omega) hi hn ho).mono ?_
      rintro e w' ⟨v, rfl, h1, h2, h3⟩
      have hc : ((bs.drop i).length : Int) < max s 0 := by rw [List.length_drop, ← hl]; omega
      rw [if_pos hc, if_pos hc, if_pos hc]
      exact ⟨v, 0, n, rfl, h1, h2, Nat.le_refl _, List.drop_of_length_le (by omega), h3⟩
    · obtain ⟨k, hk⟩ : ∃ k : Nat, s = (k : Int) := ⟨s.toNat, by omega⟩
      refine (ebytes_in b A n c i k bs bad s w h hk (by omega) hn hX).mono ?_
      rintro e w' ⟨v, rfl, h1, h2, h3⟩
      have hc : ¬ ((bs.drop i).length : Int) < max s 0 := by rw [List.length_drop, ← hl]; omega
      have hm : (max s 0).toNat = k := by omega
      rw [if_neg hc, if_neg hc, if_neg hc, hm]
      exact ⟨v, k, i + k, rfl, h1, h2, by omega, by rw [List.drop_drop], h3⟩
theorem numV_drop (xs : List UInt8) (k : Nat) (h : k < xs.length) : numV (xs.drop k) = xs[k].toNat + 256 * numV (xs.drop (k + 1)) := by
  rw [List.drop_eq_getElem_cons h]; rfl
set_option maxHeartbeats 1000000 in
theorem enum_any (b : Nat) (A : Option Addr) (n c i : Nat) (bs : List UInt8) (bad : Bool) (s : Int) (w : World) (h : Eye w b A n c i bad) (hi : i ≤ n) (hn : n ≤ 140737488355328) (hX : Bs w (.slice A n c) bs) :
    Calls Try.prog 52 #[.pointer (some ⟨b, 0, none⟩), .int .i64 s] w fun e w' => ∃ i', e = .returned (.int .u64 (numV (rdTake (bs.drop i) (wid s)) : Int)) ∧ Eye w' b A n c i' (rdBad (bs.drop i) bad (wid s)) ∧ i' ≤ n ∧ bs.drop i' = rdLeft (bs.drop i) (wid s) ∧ w.grownBy w' (some b) := by
  have HC := Lib.hid (ebytes_any b A n c i bs bad (wid s) w h hi hn hX)
  have hw := wid_le s
  have hx8 : (rdTake (bs.drop i) (wid s)).length ≤ 8 := by
    have := rdTake_le (bs.drop i) (wid s)
    omega
  clear h hi hn hX
  go_enter Try.func52, Try.ntmps52
  go_wp2_with (first | (go_at_call 53; refine (refsize_any s _).mono ?_; rintro e w1 ⟨rfl, rfl⟩) | (go_at_call 63; refine HC.out.mono ?_; rintro e w1 ⟨v, m, i', rfl, ho, hr, hi', hd, hg⟩; obtain ⟨A1, c1, rfl, hc1, hn1⟩ := own_form ho; have HLN0 := Lib.hid (own_bs ho).1; have HD := Lib.hid hd; clear hd))
  have hln := HLN0.out
  clear HLN0
  obtain ⟨xs, hxs⟩ : ∃ xs, xs = rdTake (bs.drop i) (wid s) := ⟨_, rfl⟩
  rw [← hxs] at ho hx8 hln
  have HXS := Lib.hid hxs
  have HLN := Lib.hid hln
  have hn8 : m ≤ 8 := by rw [hln]; exact hx8
  clear hxs hln
  go_loop [6, 7] (fun a p => ∃ k : Nat, k ≤ m ∧ p = .int .i64 ((k : Int) - 1) ∧ a = .int .u64 (numV (xs.drop k) : Int)) (fun _ p => ((intOf p) + 1).toNat)
  case atStart => exact ⟨m, Nat.le_refl _, rfl, by rw [List.drop_of_length_le (by rw [← HLN.out]; exact Nat.le_refl _)]; rfl⟩
  case round =>
    obtain ⟨k, hk, rfl, rfl⟩ := hrel
    by_cases hlt : 0 < k
    · obtain ⟨q, rfl⟩ : ∃ q, k = q + 1 := ⟨k - 1, by omega⟩
      have hkx : q < xs.length := by rw [← HLN.out]; omega
      obtain ⟨a, rfl, hcell⟩ := (own_at ho).map q hkx
      unfold encB at hcell
      obtain ⟨x, hx⟩ : ∃ x, x = xs[q] := ⟨_, rfl⟩
      rw [← hx] at hcell
      have HX := Lib.hid hx
      have hx8' := x.toNat_lt
      obtain ⟨z, hz⟩ : ∃ z, z = numV (xs.drop (q + 1)) := ⟨_, rfl⟩
      rw [← hz]
      have hzl : 256 * z + x.toNat < 18446744073709551616 := by
        have h1 := numV_lt (xs.drop q)
        rw [numV_drop xs q hkx, ← hx, ← hz, List.length_drop] at h1
        have h2 : xs.length - q ≤ 8 := by omega
        have h3 := Nat.pow_le_pow_right (show 0 < 256 by decide) h2
        omega
      have HZ := Lib.hid hz
      clear hx hz
      have e0 : (((q + 1 : Nat) : Int) - 1) = (q : Int) := by omega
      rw [e0]
      clear e0
      go_wp2
      go_round
      case rel => exact ⟨q, by omega, rfl, by rw [numV_drop xs q hkx, ← HX.out, ← HZ.out, show ((256 * (z : Int) + (x.toNat : Int)) = ((x.toNat + 256 * z : Nat) : Int)) from by omega]⟩
      case measure => simp [intOf]
    · obtain rfl : k = 0 := by omega
      go_wp2
      go_ret
      exact ⟨by rw [← HXS.out]; rfl, i', hr, hi', HD.out, hg⟩
end Go.Proofs.YtljdfhckllncoaaK

import Derived.Test.YteghldapcfkekaaKPackR
namespace Go.Proofs.YteghldapcfkekaaK
open Go.RowKit
set_option linter.unusedSimpArgs false
set_option linter.unusedVariables false
/-- The number of bytes, the lowest first. -/
def numV : List UInt8 → Nat
  | [] => 0
  | b :: l => b.toNat + 256 * numV l
theorem numV_lt (l : List UInt8) : numV l < 256 ^ l.length := by
  induction l with
  | nil => simp [numV]
  | cons b l ih =>
    have := b.toNat_lt
    simp only [numV, List.length_cons, Nat.pow_succ]
    omega
theorem numV_snoc (l : List UInt8) (b : UInt8) : numV (l ++ [b]) = numV l + b.toNat * 256 ^ l.length := by
  induction l with
  | nil => simp [numV]
  | cons c l ih =>
    simp only [List.cons_append, numV, ih, List.length_cons, Nat.pow_succ, Nat.mul_add]
    rw [show 256 * (b.toNat * 256 ^ l.length) = b.toNat * (256 ^ l.length * 256) from by rw [Nat.mul_comm (256 ^ l.length) 256, Nat.mul_left_comm]]
    omega
theorem rdTake_le (bs : List UInt8) (s : Int) : (rdTake bs s).length ≤ (max s 0).toNat := by
  unfold rdTake
  split
  · simp
  · simp; omega
theorem or_shift (m k : Nat) (x : UInt8) (hm : m < 256 ^ k) (hk : k ≤ 7) :
    bits .or .u64 (m : Int) (IntKind.u64.wrap ((x.toNat : Int) * (2 : Int) ^ (8 * k))) = ((m + x.toNat * 256 ^ k : Nat) : Int) := by
  have hx := x.toNat_lt
  have hp : 256 ^ k = 2 ^ (8 * k) := by rw [Nat.pow_mul]
  have hp64 : 256 ^ k * 256 ≤ 18446744073709551616 := by
    have := Nat.pow_le_pow_right (show 0 < 256 by decide) (show k + 1 ≤ 8 by omega)
    rw [Nat.pow_succ] at this
    exact Nat.le_trans this (by decide)
  have hxb : x.toNat * 256 ^ k < 18446744073709551616 := by
    have h1 : x.toNat * 256 ^ k < 256 * 256 ^ k := Nat.mul_lt_mul_of_pos_right (by omega) (Nat.pow_pos (by decide))
    rw [Nat.mul_comm 256] at h1
    omega
  have hwr : IntKind.u64.wrap ((x.toNat : Int) * (2 : Int) ^ (8 * k)) = ((x.toNat * 256 ^ k : Nat) : Int) := by
    have e1 : ((x.toNat : Int) * (2 : Int) ^ (8 * k)) = ((x.toNat * 256 ^ k : Nat) : Int) := by
      rw [hp]; simp
    rw [e1]
    rw [IntKind.wrap_u64]
    generalize x.toNat * 256 ^ k = z at hxb ⊢
    omega
  rw [hwr]
  have hm64 : m < 2 ^ 64 := by
    have : 256 ^ k ≤ 256 ^ k * 256 := Nat.le_mul_of_pos_right _ (by decide)
    have h2 : (2 : Nat) ^ 64 = 18446744073709551616 := by decide
    omega
  have hxb' : x.toNat * 256 ^ k < 2 ^ 64 := by
    have h2 : (2 : Nat) ^ 64 = 18446744073709551616 := by decide
    omega
  rw [bits_or_u64_nat m (x.toNat * 256 ^ k) (by omega) hxb]
  congr 1
  rw [hp, Nat.or_comm, Nat.mul_comm x.toNat, ← Nat.two_pow_add_eq_or_of_lt (by rw [← hp]; exact hm) x.toNat]
  omega
set_option maxHeartbeats 1000000 in
theorem rnum_any (b D : Nat) (bs : List UInt8) (bad : Bool) (s : Int) (w : World) (h : Rdr w b D bs bad) (hl : bs.length ≤ 140737488355328) :
    Calls Try.prog 31 #[.pointer (some ⟨b, 0, none⟩), .int .i64 s] w fun e w' => e = .returned (.int .u64 (numV (rdTake bs (wid s)) : Int)) ∧ Rdr w' b D (rdLeft bs (wid s)) (rdBad bs bad (wid s)) ∧ w.grownBy w' (some b) := by
  have HC := Lib.hid (bytes_any b D bs bad (wid s) w h hl)
  have hw := wid_le s
  have hx8 : (rdTake bs (wid s)).length ≤ 8 := by
    have := rdTake_le bs (wid s)
    omega
  clear h hl
  go_enter Try.func31, Try.ntmps31
  go_wp2_with (first | (go_at_call 43; refine (width_any s _).mono ?_; rintro e w1 ⟨rfl, rfl⟩) | (go_at_call 33; refine HC.out.mono ?_; rintro e w1 ⟨v, n, rfl, ho, hr, hg⟩; obtain ⟨A, c, rfl, hc, hn⟩ := own_form ho; have HLN0 := Lib.hid (own_bs ho).1))
  have hln := HLN0.out
  clear HLN0
  obtain ⟨xs, hxs⟩ : ∃ xs, xs = rdTake bs (wid s) := ⟨_, rfl⟩
  rw [← hxs] at ho hx8 hln
  have HXS := Lib.hid hxs
  have HLN := Lib.hid hln
  have hn8 : n ≤ 8 := by rw [hln]; exact hx8
  clear hxs hln
  go_loop [4, 5, 6, 12] (fun a p q i => ∃ k : Nat, k ≤ n ∧ i = .int .i64 k ∧ a = .int .u64 (numV (xs.take k) : Int)) (fun _ _ _ i => n - (intOf i).toNat)
  case atStart => exact ⟨0, Nat.zero_le _, rfl, rfl⟩
  case round =>
    obtain ⟨k, hk, rfl, rfl⟩ := hrel
    by_cases hlt : k < n
    · have hkx : k < xs.length := by rw [← HLN.out]; exact hlt
      obtain ⟨a, rfl, hcell⟩ := (own_at ho).map k hkx
      unfold encB at hcell
      obtain ⟨x, hx⟩ : ∃ x, x = xs[k] := ⟨_, rfl⟩
      rw [← hx] at hcell
      have HX := Lib.hid hx
      have hx8' := x.toNat_lt
      obtain ⟨m, hm⟩ : ∃ m, m = numV (xs.take k) := ⟨_, rfl⟩
      rw [← hm]
      have hml : m < 18446744073709551616 := by
        rw [hm]
        have h1 := numV_lt (xs.take k)
        have h2 : (xs.take k).length ≤ 7 := by rw [List.length_take]; omega
        have h3 := Nat.pow_le_pow_right (show 0 < 256 by decide) h2
        omega
      have HM := Lib.hid hm
      clear hx hm
      have hos := Lib.hid (or_shift m k x (by rw [HM.out]; have h1 := numV_lt (xs.take k); rwa [List.length_take, Nat.min_eq_left (by omega)] at h1) (by omega))
      go_wp2
      go_round
      case rel => exact ⟨k + 1, by omega, by go_num, by rw [hos.out, List.take_succ_eq_append_getElem hkx, numV_snoc, ← HM.out, ← HX.out, List.length_take, Nat.min_eq_left (by omega)]⟩
      case measure => simp [intOf]; omega
    · obtain rfl : k = n := by omega
      go_wp2
      go_ret
      exact ⟨by rw [List.take_of_length_le (by rw [← HLN.out]; exact Nat.le_refl _), HXS.out]; rfl, hr, hg⟩
end Go.Proofs.YteghldapcfkekaaK

import Derived.Test.YtofjabejkcicjaaKBlk
import Derived.StillTailTactics
import Derived.Deep.DeepCutAuto
namespace Go.Proofs.YtofjabejkcicjaaK
open Go.RowKit
set_option linter.unusedSimpArgs false
set_option linter.unusedVariables false
/-! block.write. -/
def clampN (n : Int) (m : Nat) : Nat := (min (max n 0) (m : Int)).toNat
theorem clampN_eq (n : Int) (m : Nat) : min (max n 0) (m : Int) = (clampN n m : Int) := by unfold clampN; omega
theorem clampN_le (n : Int) (m : Nat) : clampN n m ≤ m := by unfold clampN; omega
theorem info_u8c : (Try.prog.info? 5).map (fun i => (i.zero, i.size, i.bytes)) = some (some (.int .u8 0), 1, 1) := by kernel_rfl
theorem u8_and (x y : UInt8) : bits .and .u8 (x.toNat : Int) (y.toNat : Int) = ((x &&& y).toNat : Int) := by
  have h : bits .and .u8 (x.toNat : Int) (y.toNat : Int) = ((x.toNat &&& y.toNat : Nat) : Int) := by
    have hx := x.toNat_lt
    have hy := y.toNat_lt
    have h1 : (BitVec.ofInt 8 (x.toNat : Int)).toNat = x.toNat := by
      rw [BitVec.ofInt_natCast, BitVec.toNat_ofNat]; exact Nat.mod_eq_of_lt (by omega)
    have h2 : (BitVec.ofInt 8 (y.toNat : Int)).toNat = y.toNat := by
      rw [BitVec.ofInt_natCast, BitVec.toNat_ofNat]; exact Nat.mod_eq_of_lt (by omega)
    have hl : x.toNat &&& y.toNat < 2 ^ 8 := Nat.and_lt_two_pow _ (by omega)
    show IntKind.u8.wrap ((BitVec.ofInt 8 (x.toNat : Int) &&& BitVec.ofInt 8 (y.toNat : Int)).toNat : Int) = _
    rw [BitVec.toNat_and, h1, h2, IntKind.wrap_u8]
    omega
  rw [h, UInt8.toNat_and]
/-- What a page is when its first n bytes were written. -/
def wrG (g D : Nat → UInt8) (n : Nat) (i : Nat) : UInt8 := if i < n then g i &&& D i else g i
theorem updP_same (M : Nat → Nat → Nat → UInt8) (b p : Nat) (g : Nat → UInt8) : updP M b p g b p = g := by
  funext i; unfold updP; rw [if_pos ⟨rfl, rfl⟩]
theorem updP_updP (M : Nat → Nat → Nat → UInt8) (b p : Nat) (g g' : Nat → UInt8) : updP (updP M b p g) b p g' = updP M b p g' := by
  funext b' p' i
  unfold updP
  by_cases e : b' = b ∧ p' = p
  · rw [if_pos e, if_pos e]
  · rw [if_neg e, if_neg e, if_neg e]
theorem updP_self (M : Nat → Nat → Nat → UInt8) (b p : Nat) : updP M b p (M b p) = M := by
  funext b' p' i
  unfold updP
  by_cases e : b' = b ∧ p' = p
  · rw [if_pos e, e.1, e.2]
  · rw [if_neg e]
theorem updP_other (M : Nat → Nat → Nat → UInt8) (b p b' p' : Nat) (g : Nat → UInt8) (h : ¬ (b' = b ∧ p' = p)) : updP M b p g b' p' = M b' p' := by
  funext i; unfold updP; rw [if_neg h]
theorem wrG_zero (g D : Nat → UInt8) : wrG g D 0 = g := by
  funext i; unfold wrG; rw [if_neg (by omega)]
theorem wrG_step (g D : Nat → UInt8) (k : Nat) : upd (wrG g D k) k (g k &&& D k) = wrG g D (k + 1) := by
  funext i
  unfold upd wrG
  by_cases e2 : i = k
  · rw [if_pos e2, if_pos (by omega), e2]
  · rw [if_neg e2]
    by_cases e3 : i < k
    · rw [if_pos e3, if_pos (by omega)]
    · rw [if_neg e3, if_neg (by omega)]
set_option maxRecDepth 100000 in
set_option maxHeartbeats 4000000 in
theorem write_any (rb N b p : Nat) (M : Nat → Nat → Nat → UInt8) (nx : Nat → Int) (bd : Nat → Bool) (D : Nat → UInt8) (n : Int) (hp : p < 8) (hb : b < N) (w : World) (hR : Row w rb (2066 * N) (blkV M nx bd)) :
    Calls Try.prog 40 #[.pointer (some ⟨rb, b * 2066, none⟩), .int .i64 p, .int .i64 n, .agg (pgL D).toArray] w fun e w' => (∃ u, e = .returned u) ∧ Row w' rb (2066 * N) (blkV (updP M b p (wrG (M b p) D (clampN n 258))) nx bd) ∧ Chg [rb] w w' := by
  obtain ⟨L, hL⟩ : ∃ L, L = pgL D := ⟨_, rfl⟩
  rw [← hL]
  have hXr : Row (w.alloc (.cells L.toArray 34)) w.heap.size 258 (fun i => encB (D i)) := by
    have := arr_toRow (arr_newL w L 34) (fun i => encB (D i)) (fun k hk => by rw [hL, pgL_len] at hk; rw [hL, pgL_at _ k hk])
    rwa [hL, pgL_len, ← hL] at this
  have hne : w.heap.size ≠ rb := by have := hR.lt; omega
  have hR0 : Row (w.alloc (.cells L.toArray 34)) rb (2066 * N) (blkV M nx bd) := hR.below ((Below.refl _ _).alloc (Nat.le_refl _) _)
  have hC0 : Chg [rb] w (w.alloc (.cells L.toArray 34)) := (Chg.refl _ _).alloc _
  obtain ⟨W, hW⟩ : ∃ W, W = w.alloc (.cells L.toArray 34) := ⟨_, rfl⟩
  obtain ⟨xb, hxb⟩ : ∃ xb, xb = w.heap.size := ⟨_, rfl⟩
  rw [← hW] at hXr hR0 hC0
  rw [← hxb] at hXr hne
  obtain ⟨K, hK⟩ : ∃ K, K = clampN n 258 := ⟨_, rfl⟩
  have hmm := clampN_eq n 258
  rw [← hK] at hmm ⊢
  have hmm2 : min (max n 0) 258 = (K : Int) := hmm
  have hK8 : K ≤ 258 := by rw [hK]; exact clampN_le n 258
  clear hK hL hR hmm
  go_enter Try.func40, Try.ntmps40
  go_wp2_with fail
  rw [← hW]
  simp only [← hxb]
  clear hW hxb hmm2
  go_loopw [8, 12] (fun v8 v12 wr => ∃ k : Nat, k ≤ K ∧ v12 = .int .i64 k ∧ Chg [rb] w wr ∧ Row wr xb 258 (fun i => encB (D i)) ∧ Row wr rb (2066 * N) (blkV (updP M b p (wrG (M b p) D k)) nx bd)) (fun _ v12 _ => 258 - (intOf v12).toNat)
  case atStart =>
    refine ⟨0, by omega, rfl, hC0, hXr, hR0.congr fun j hj => ?_⟩
    rw [wrG_zero, updP_self]
  case round =>
    obtain ⟨k, hk, rfl, hC1, hX1, hR1⟩ := hrel
    clear hC0 hR0 hXr
    by_cases hlt : k < K
    · have hb8 : b * 2066 + p * 258 + k < 2066 * N := by
        have := pg1 p k hp (by omega)
        omega
      have e1 : b * 2066 + p * 258 + k = b * 2066 + (258 * p + k) := by omega
      have hc := hR1.at _ hb8
      have hf := hR1.fr _ hb8
      rw [e1, blkV_at _ _ _ b p k hp (by omega), ← e1] at hc
      have hxc := hX1.at k (by omega)
      have hv : updP M b p (wrG (M b p) D k) b p k = M b p k := by
        unfold updP wrG
        rw [if_pos ⟨rfl, rfl⟩, if_neg (by omega)]
      rw [hv] at hc
      obtain ⟨x, hx⟩ : ∃ x, x = M b p k := ⟨_, rfl⟩
      obtain ⟨y, hy⟩ : ∃ y, y = D k := ⟨_, rfl⟩
      rw [← hx] at hc
      rw [← hy] at hxc
      unfold encB at hc hxc
      have hand := u8_and x y
      have hk1 : (k : Int) < K := by omega
      have hk0 : (0 : Int) ≤ k := by omega
      have hk2 : (k : Int) < 258 := by omega
      have hp0 : (0 : Int) ≤ p := by omega
      have hp8 : (p : Int) < 8 := by omega
      have HC1 := Lib.hid hC1
      have HR1 := Lib.hid hR1
      have HX1 := Lib.hid hX1
      have HX := Lib.hid hx
      have HY := Lib.hid hy
      clear hx hy hv hb8 e1 hC1 hR1 hX1 hb
      go_wp2_with fail
      go_still_tail 16, (by kernel_rfl)
      change wpList _ _ _ _ _ wr.drew
      go_wp2_with fail
      go_roundw
      case rel =>
        refine ⟨k + 1, by omega, by go_num, (HC1.out.drew).set ⟨rb, b * 2066 + p * 258 + k, none⟩ (by simp) _, ?_, ?_⟩
        · exact HX1.out.chg (S := [rb]) ((Chg.refl [rb] wr).drew.set ⟨rb, b * 2066 + p * 258 + k, none⟩ (by simp) _) (by simpa using hne)
        · have h1 : Row wr.drew rb (2066 * N) (blkV (updP M b p (wrG (M b p) D k)) nx bd) := HR1.out.chg (S := []) (Chg.refl _ wr).drew (by simp)
          refine (h1.set (b * 2066 + p * 258 + k) _).congr fun j hj => ?_
          rw [show b * 2066 + p * 258 + k = b * 2066 + (258 * p + k) from by omega]
          refine (blkV_set_byte _ nx bd b p k hp (by omega) (x &&& y) j).trans ?_
          rw [updP_same, updP_updP, HX.out, HY.out, wrG_step]
      case measure => simp [intOf]; omega
    · obtain rfl : k = K := by omega
      go_wp2_with fail
      go_end0
      exact ⟨⟨_, rfl⟩, hR1, hC1⟩
end Go.Proofs.YtofjabejkcicjaaK

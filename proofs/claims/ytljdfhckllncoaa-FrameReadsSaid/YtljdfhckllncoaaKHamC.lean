import Derived.Test.YtljdfhckllncoaaKHam
namespace Go.Proofs.YtljdfhckllncoaaK
open Go.RowKit
set_option linter.unusedSimpArgs false
set_option linter.unusedVariables false
def pc (x : Nat) : Nat := ((List.range 12).map (bitN x)).sum
set_option maxRecDepth 100000 in
theorem ones64 (x : Nat) (hx : x < 4096) (w : World) : Calls Try.prog 68 #[.int .u64 (x : Int)] w fun e w' => e = .returned (.int .i64 (pc x : Int)) ∧ w' = w := by
  have h0 : (0 : Int) ≤ x := by omega
  have h1 : (x : Int) < 4096 := by omega
  go_enter Try.func68, Try.ntmps68
  go_wp2
  go_ret
  refine ⟨?_, rfl⟩
  show Ending.returned (Value.int .i64 _) = _
  congr 2
  clear h0 h1
  obtain ⟨y, rfl⟩ : ∃ y : Fin 4096, x = y.val := ⟨⟨x, hx⟩, rfl⟩
  clear hx
  revert y
  decide +kernel
theorem ones_any (x : Nat) (hx : x < 4096) (w : World) : Calls Try.prog 58 #[.int .u64 (x : Int)] w fun e w' => e = .returned (.int .i64 (pc x : Int)) ∧ w' = w := by
  have HO := Lib.hid (ones64 x hx w)
  go_enter Try.func58, Try.ntmps58
  go_wp2_with (go_at_call 68; refine HO.out.mono ?_; rintro e w1 ⟨rfl, rfl⟩)
  go_ret
  exact ⟨rfl, rfl⟩
theorem pc_le (x : Nat) : pc x ≤ 12 := by
  have h : ∀ j, bitN x j ≤ 1 := fun j => by have := bitN_lt x j; omega
  have e : pc x = bitN x 0 + (bitN x 1 + (bitN x 2 + (bitN x 3 + (bitN x 4 + (bitN x 5 + (bitN x 6 + (bitN x 7 + (bitN x 8 + (bitN x 9 + (bitN x 10 + (bitN x 11 + 0))))))))))) := rfl
  have a0 := h 0; have a1 := h 1; have a2 := h 2; have a3 := h 3; have a4 := h 4; have a5 := h 5
  have a6 := h 6; have a7 := h 7; have a8 := h 8; have a9 := h 9; have a10 := h 10; have a11 := h 11
  omega
theorem i64_or_4096 (s : Nat) (hs : s < 4096) : bits .or .i64 (s : Int) 4096 = (s : Int) + 4096 := by
  show IntKind.i64.wrap (((BitVec.ofInt 64 (s : Int)) ||| (BitVec.ofInt 64 ((4096 : Nat) : Int))).toNat : Int) = _
  rw [BitVec.ofInt_natCast, BitVec.ofInt_natCast, BitVec.toNat_or, BitVec.toNat_ofNat, BitVec.toNat_ofNat, Nat.mod_eq_of_lt (by omega), Nat.mod_eq_of_lt (by omega)]
  have h : s ||| 4096 = 4096 + s := by
    have := Nat.two_pow_add_eq_or_of_lt (i := 12) (b := s) hs 1
    rw [Nat.or_comm]
    rw [show 2 ^ 12 * 1 = 4096 from rfl] at this
    exact this.symm
  rw [h, IntKind.wrap_i64]
  omega
/-- The check bits. -/
def chk (bs : List UInt8) : Nat := foldS bs 2048 + 4096 * ((foldT bs 2048 % 2 + pc (foldS bs 2048)) % 2)
theorem chk_lt (bs : List UInt8) : chk bs < 8192 := by
  have := foldS_lt bs 2048 (Nat.le_refl _)
  have h : (foldT bs 2048 % 2 + pc (foldS bs 2048)) % 2 < 2 := Nat.mod_lt _ (by decide)
  unfold chk
  omega
set_option maxRecDepth 100000 in
set_option maxHeartbeats 1000000 in
theorem check_any (bs : List UInt8) (hl : bs.length = 256) (w : World) :
    Calls Try.prog 38 #[.agg (bs.map encB).toArray] w fun e w' => e = .returned (.int .u16 (chk bs : Int)) ∧ Below w.heap.size w w' := by
  obtain ⟨C, hC⟩ : ∃ C, C = (bs.map encB).toArray := ⟨_, rfl⟩
  obtain ⟨W, hW⟩ : ∃ W, W = w.alloc (.cells C 76) := ⟨_, rfl⟩
  obtain ⟨xb, hxb⟩ : ∃ xb, xb = w.heap.size := ⟨_, rfl⟩
  have hb0 : Below w.heap.size w W := by rw [hW]; exact (Below.refl _ _).alloc (Nat.le_refl _) _
  have hD : Dat W xb bs := ⟨hl, 76, (0, 0), by rw [hW, hxb, ← hC]; exact heap_alloc_new w _⟩
  have HF := Lib.hid (fold_any xb bs W hD)
  have hs := foldS_lt bs 2048 (Nat.le_refl _)
  have ht : foldT bs 2048 % 2 < 2 := Nat.mod_lt _ (by decide)
  have hce : chk bs = foldS bs 2048 + 4096 * ((foldT bs 2048 % 2 + pc (foldS bs 2048)) % 2) := rfl
  obtain ⟨s, hse⟩ : ∃ s, s = foldS bs 2048 := ⟨_, rfl⟩
  obtain ⟨t, hte⟩ : ∃ t, t = foldT bs 2048 % 2 := ⟨_, rfl⟩
  rw [← hse] at HF hs hce
  rw [← hte] at HF ht hce
  have HO := Lib.hid (fun W => ones_any s hs W)
  have hp := pc_le s
  obtain ⟨p, hpe⟩ : ∃ p, p = pc s := ⟨_, rfl⟩
  rw [← hpe] at HO hp hce
  have hor := i64_or_4096 s hs
  have hand0 := i64_and1 (t + p) (by omega)
  have hand : bits .and .i64 ((t : Int) + (p : Int)) 1 = (((t + p) % 2 : Nat) : Int) := by
    rw [← hand0]; congr 1
  have HCE := Lib.hid hce
  rw [← hC]
  clear hand0 hD hl hC hse hte hpe hce
  by_cases hpar : (t + p) % 2 = 0
  · rw [hpar] at hand
    have HE : Hid (chk bs = s) := Lib.hid (by rw [HCE.out, hpar]; omega)
    clear hpar hor
    go_enter Try.func38, Try.ntmps38
    go_wp2_with fail
    rw [← hW, ← hxb]
    clear hW hxb
    go_wp2_with (first
      | (go_at_call 57; refine HF.out.mono ?_; rintro e w1 ⟨rfl, hb1⟩; have hb2 := hb0.trans (hb1.mono hb0.size))
      | (go_at_call 58; refine (HO.out _).mono ?_; rintro e w2 ⟨rfl, rfl⟩))
    go_ret
    exact ⟨by rw [HE.out]; rfl, hb2⟩
  · have hpar1 : (t + p) % 2 = 1 := by omega
    rw [hpar1] at hand
    have HE : Hid ((chk bs : Int) = (s : Int) + 4096) := Lib.hid (by rw [HCE.out, hpar1]; omega)
    clear hpar hpar1
    go_enter Try.func38, Try.ntmps38
    go_wp2_with fail
    rw [← hW, ← hxb]
    clear hW hxb
    go_wp2_with (first
      | (go_at_call 57; refine HF.out.mono ?_; rintro e w1 ⟨rfl, hb1⟩; have hb2 := hb0.trans (hb1.mono hb0.size))
      | (go_at_call 58; refine (HO.out _).mono ?_; rintro e w2 ⟨rfl, rfl⟩))
    go_ret
    exact ⟨by rw [HE.out]; rfl, hb2⟩
end Go.Proofs.YtljdfhckllncoaaK

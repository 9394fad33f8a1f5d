import Derived.Test.YtljdfhckllncoaaKHamP
import Derived.Deep.QuietTactic
import Derived.BigQuiet
import Derived.WalkLawsBesides
namespace Go.Proofs.YtljdfhckllncoaaK
open Go.RowKit
set_option linter.unusedSimpArgs false
set_option linter.unusedVariables false
theorem i64_xor_nat (a b : Nat) (ha : a < 4096) (hb : b < 4096) : bits .xor .i64 (a : Int) (b : Int) = ((a ^^^ b : Nat) : Int) := by
  have h := Nat.xor_lt_two_pow (n := 12) ha hb
  show IntKind.i64.wrap (((BitVec.ofInt 64 (a : Int)) ^^^ (BitVec.ofInt 64 (b : Int))).toNat : Int) = _
  rw [BitVec.ofInt_natCast, BitVec.ofInt_natCast, BitVec.toNat_xor, BitVec.toNat_ofNat, BitVec.toNat_ofNat, Nat.mod_eq_of_lt (by omega), Nat.mod_eq_of_lt (by omega), IntKind.wrap_i64]
  omega
theorem i64_and1 (a : Nat) (ha : a < 4096) : bits .and .i64 (a : Int) 1 = ((a % 2 : Nat) : Int) := by
  show IntKind.i64.wrap (((BitVec.ofInt 64 (a : Int)) &&& (BitVec.ofInt 64 ((1 : Nat) : Int))).toNat : Int) = _
  rw [BitVec.ofInt_natCast, BitVec.ofInt_natCast, BitVec.toNat_and, BitVec.toNat_ofNat, BitVec.toNat_ofNat, Nat.mod_eq_of_lt (by omega), Nat.mod_eq_of_lt (by omega), Nat.and_one_is_mod, IntKind.wrap_i64]
  omega
theorem i64_or_low (k t : Nat) (hk : k < 256) (ht : t < 8) : bits .or .i64 ((k : Int) * 8) (t : Int) = ((8 * k + t : Nat) : Int) := by
  have e : ((k : Int) * 8) = ((8 * k : Nat) : Int) := by omega
  rw [e]
  show IntKind.i64.wrap (((BitVec.ofInt 64 ((8 * k : Nat) : Int)) ||| (BitVec.ofInt 64 (t : Int))).toNat : Int) = _
  rw [BitVec.ofInt_natCast, BitVec.ofInt_natCast, BitVec.toNat_or, BitVec.toNat_ofNat, BitVec.toNat_ofNat, Nat.mod_eq_of_lt (by omega), Nat.mod_eq_of_lt (by omega)]
  have h : 8 * k ||| t = 8 * k + t := by
    have := Nat.two_pow_add_eq_or_of_lt (i := 3) (b := t) ht k
    rw [show 2 ^ 3 = 8 from rfl] at this
    exact this.symm
  rw [h, IntKind.wrap_i64]
  omega
theorem u8_and_nat (a b : Nat) (ha : a < 256) (hb : b < 256) : bits .and .u8 (a : Int) (b : Int) = ((a &&& b : Nat) : Int) := by
  have h := Nat.and_lt_two_pow (n := 8) a hb
  show IntKind.u8.wrap (((BitVec.ofInt 8 (a : Int)) &&& (BitVec.ofInt 8 (b : Int))).toNat : Int) = _
  rw [BitVec.ofInt_natCast, BitVec.ofInt_natCast, BitVec.toNat_and, BitVec.toNat_ofNat, BitVec.toNat_ofNat, Nat.mod_eq_of_lt (by omega), Nat.mod_eq_of_lt (by omega), IntKind.wrap_u8]
  omega
/-- The places' loop, its first j rounds. -/
def plcTo (i : Nat) : Nat → Nat
  | 0 => i + 1
  | j + 1 => if 2 ^ j ≤ plcTo i j then plcTo i j + 1 else plcTo i j
set_option maxRecDepth 100000 in
theorem plcTo_all : ∀ i : Fin 2048, plcTo i.val 12 = plc i.val ∧ plcTo i.val 12 < 4096 := by decide +kernel
theorem plcTo_le (i : Nat) : ∀ j, plcTo i j ≤ i + 1 + j := by
  intro j
  induction j with
  | zero => exact Nat.le_refl _
  | succ j ih => unfold plcTo; split <;> omega
/-- Once a power is above it, it stays. -/
theorem plcTo_stop (i j : Nat) (h : plcTo i j < 2 ^ j) : ∀ d, plcTo i (j + d) = plcTo i j := by
  intro d
  induction d with
  | zero => rfl
  | succ d ih =>
    have e : plcTo i (j + (d + 1)) = if 2 ^ (j + d) ≤ plcTo i (j + d) then plcTo i (j + d) + 1 else plcTo i (j + d) := rfl
    rw [e, ih, if_neg]
    have : 2 ^ j ≤ 2 ^ (j + d) := Nat.pow_le_pow_right (by decide) (by omega)
    omega
theorem place_any (i : Nat) (hi : i < 2048) (w : World) : Calls Try.prog 66 #[.int .i64 (i : Int)] w fun e w' => e = .returned (.int .i64 (plc i : Int)) ∧ w = w' := by
  go_enter Try.func66, Try.ntmps66
  have h0 : (0 : Int) ≤ i := by omega
  go_wp2
  go_loopw [3, 4] (fun v3 v4 wr => ∃ (j p q : Nat), j ≤ 12 ∧ p = plcTo i j ∧ q = 2 ^ j ∧ v3 = .int .i64 (p : Int) ∧ v4 = .int .i64 (q : Int) ∧ wr = w) (fun _ v4 _ => 5000 - (intOf v4).toNat)
  case atStart => exact ⟨0, i + 1, 1, by omega, rfl, rfl, by go_num, rfl, rfl⟩
  case round =>
    obtain ⟨j, p, q, hj, hp, hq, rfl, rfl, rfl⟩ := hrel
    have hple := plcTo_le i j
    rw [← hp] at hple
    have hq1 : q ≤ 4096 := by rw [hq]; exact Nat.pow_le_pow_right (n := 2) (by decide) hj
    have hq0 : 0 < q := by rw [hq]; exact Nat.pow_pos (by decide)
    by_cases hlt : q ≤ p
    · have hj12 : j < 12 := by
        rcases Nat.lt_or_ge j 12 with h | h
        · exact h
        · exfalso
          have : j = 12 := by omega
          subst this
          have := (plcTo_all ⟨i, hi⟩).2
          have e : p < 4096 := by rw [hp]; exact this
          have : q = 4096 := by rw [hq]
          omega
      have e1 : p + 1 = plcTo i (j + 1) := by
        have : plcTo i (j + 1) = if 2 ^ j ≤ plcTo i j then plcTo i j + 1 else plcTo i j := rfl
        rw [this, ← hp, ← hq, if_pos hlt]
      have e2 : q * 2 = 2 ^ (j + 1) := by rw [hq, Nat.pow_succ]
      have E1 := Lib.hid e1
      have E2 := Lib.hid e2
      clear e1 e2 hp hq
      have hlt' : (q : Int) ≤ p := by omega
      go_wp2
      go_roundw
      case rel => exact ⟨j + 1, p + 1, q * 2, by omega, E1.out, E2.out, by go_num, by go_num, trivial⟩
      case measure => simp [intOf]; omega
    · have e1 : p = plc i := by
        have h1 := plcTo_stop i j (by rw [← hp, ← hq]; omega) (12 - j)
        rw [show j + (12 - j) = 12 from by omega, (plcTo_all ⟨i, hi⟩).1, ← hp] at h1
        exact h1.symm
      have E1 := Lib.hid e1
      clear e1 hp hq
      have hlt' : ¬ (q : Int) ≤ p := by omega
      go_wp2
      go_ret
      exact ⟨by rw [E1.out]; rfl, rfl⟩
theorem and1_xor (a b : Nat) (ha : a < 2) (hb : b < 4096) : bits .xor .i64 (a : Int) (((b % 2 : Nat) : Nat) : Int) = (((a + b) % 2 : Nat) : Int) := by
  rw [i64_xor_nat a (b % 2) (by omega) (by omega)]
  have h1 : a ^^^ (b % 2) = (a + b) % 2 := by
    have h2 : b % 2 < 2 := Nat.mod_lt _ (by decide)
    have e : ∀ x y : Fin 2, x.val ^^^ y.val = (x.val + y.val) % 2 := by decide
    have := e ⟨a, ha⟩ ⟨b % 2, h2⟩
    simp only at this
    rw [this]; omega
  rw [h1]
theorem ones_le : ∀ x : Fin 256, Lib.onesCount x.val ≤ 8 := by decide +kernel
/-- Data that lie in a block, read through a pointer. -/
def Dat (w : World) (b : Nat) (bs : List UInt8) : Prop := bs.length = 256 ∧ ∃ T fz, w.heap[b]? = some (.cells (bs.map encB).toArray T fz)
theorem Dat.cell {w : World} {b : Nat} {bs : List UInt8} (h : Dat w b bs) (k : Nat) (hk : k < 256) : w.cell? ⟨b, k, none⟩ = some (.int .u8 ((bs.getD k 0).toNat : Int)) := by
  obtain ⟨hl, T, fz, hh⟩ := h
  rw [cell_of_row _ _ k _ _ _ hh]
  have hk' : k < bs.length := by omega
  rw [List.getElem?_toArray, List.getElem?_map, List.getD_eq_getElem?_getD, List.getElem?_eq_getElem hk']
  rfl
theorem Dat.below {w w1 : World} {b : Nat} {bs : List UInt8} (h : Dat w b bs) (hb : Below w.heap.size w w1) : Dat w1 b bs := by
  obtain ⟨hl, T, fz, hh⟩ := h
  exact ⟨hl, T, fz, (hb.block b (Array.getElem?_eq_some_iff.1 hh).1).trans hh⟩
theorem below_drewN' {B : Nat} {w w1 : World} {k : Nat} (h : Below B w w1) : Below B w (w1.drewN k) := ⟨h.os, h.tape, h.output, h.size, h.block⟩
set_option maxRecDepth 100000 in
set_option maxHeartbeats 4000000 in
theorem fold_any (b : Nat) (bs : List UInt8) (w : World) (hD : Dat w b bs) :
    Calls Try.prog 57 #[.pointer (some ⟨b, 0, none⟩)] w fun e w' => e = .returned (.tuple #[.int .i64 (foldS bs 2048 : Int), .int .i64 ((foldT bs 2048 % 2 : Nat) : Int)]) ∧ Below w.heap.size w w' := by
  have HO := Lib.hid (fun (x : Nat) (hx : x < 256) W => by have h := Try.bits_OnesCount8 (x : Int) W (by omega) (by omega); rw [Int.toNat_natCast] at h; exact h)
  have HT := Lib.hid (fun (x : Nat) (hx : x < 256) W => by have h := Try.bits_TrailingZeros8 (x : Int) W (by omega) (by omega); rw [Int.toNat_natCast] at h; exact h)
  have HP := Lib.hid (fun (i : Nat) hi W => place_any i hi W)
  have HDD := Lib.hid hD
  clear hD
  go_enter Try.func57, Try.ntmps57
  go_wp2
  go_loopw [2, 3, 4, 5, 6, 8] (fun v2 v3 v4 v5 v6 i wr => ∃ (k s t : Nat), k ≤ 256 ∧ i = .int .i64 (k : Int) ∧ s = foldS bs (8 * k) ∧ t = foldT bs (8 * k) % 2 ∧ v2 = .int .i64 (s : Int) ∧ v3 = .int .i64 (t : Int) ∧ Below w.heap.size w wr) (fun _ _ _ _ _ i _ => 256 - (intOf i).toNat)
  case atStart => exact ⟨0, 0, 0, by omega, rfl, rfl, rfl, rfl, rfl, Below.refl _ _⟩
  case round =>
    obtain ⟨k, s, t, hk, rfl, hs, ht, rfl, rfl, hb⟩ := hrel
    have hsz := hb.size
    by_cases hlt : k < 256
    · obtain ⟨x, hx⟩ : ∃ x, x = (bs.getD k 0).toNat := ⟨_, rfl⟩
      have hc := (HDD.out.below hb).cell k hlt
      rw [← hx] at hc
      have hx8 : x < 256 := by rw [hx]; exact (bs.getD k 0).toNat_lt
      have hones : Lib.onesCount x ≤ 8 := ones_le ⟨x, hx8⟩
      have hTb := foldT_byte bs k
      rw [← hx] at hTb
      have htl : t < 2 := by rw [ht]; exact Nat.mod_lt _ (by decide)
      have hk1 : (k : Int) < 256 := by omega
      have hk0 : (0 : Int) ≤ k := by omega
      have htn : (t + Lib.onesCount x) % 2 = foldT bs (8 * (k + 1)) % 2 := by rw [hTb, ht]; omega
      have hslt : s < 4096 := by rw [hs]; exact foldS_lt bs _ (by omega)
      have HX := Lib.hid hx
      have HTN := Lib.hid htn
      have HS := Lib.hid hs
      clear hx hTb ht htn hs
      obtain ⟨o, ho⟩ : ∃ o, o = Lib.onesCount x := ⟨_, rfl⟩
      have HO1 := Lib.hid (fun W => HO.out x hx8 W)
      rw [← ho] at HO1 hones
      have HTN2 : Hid ((t + o) % 2 = foldT bs (8 * (k + 1)) % 2) := Lib.hid (by rw [ho]; exact HTN.out)
      have hand : bits .and .i64 (o : Int) 1 = ((o % 2 : Nat) : Int) := i64_and1 o (by omega)
      have hxor : bits .xor .i64 (t : Int) ((o % 2 : Nat) : Int) = (((t + o) % 2 : Nat) : Int) := and1_xor t o htl (by omega)
      clear ho HTN
      go_wp2
      go_quiet (fail)
      have hb2 := below_drewN' (k := nq) hb
      go_wp2_with (go_at_call 47; refine (HO1.out _).mono ?_; rintro e w2 ⟨rfl, rfl⟩)
      obtain ⟨wo, hwo⟩ : ∃ wo : World, wo = wr.drewN nq := ⟨_, rfl⟩
      rw [← hwo] at hb2
      rw [← hwo]
      have hxor2 : bits .xor .i64 (t : Int) ((o : Int) % 2) = (((t + o) % 2 : Nat) : Int) := by rw [← hxor]; congr 1
      have HXOR := Lib.hid hxor2
      clear hwo hc hand hxor hxor2
      go_loopw [2, 5, 6] (fun v2 v5 v6 wr => ∃ (m s y : Nat), m ≤ 8 ∧ y = x / 2 ^ m * 2 ^ m ∧ s = foldS bs (8 * k + m) ∧ v2 = .int .i64 (s : Int) ∧ v5 = .int .u8 (y : Int) ∧ wr = wo) (fun _ v5 _ _ => (intOf v5).toNat)
      case atStart => exact ⟨0, s, x, by omega, by simp, HS.out, rfl, rfl, rfl⟩
      case round =>
        obtain ⟨m, s', y, hm, hy, hs', rfl, rfl, rfl⟩ := hrel
        by_cases hy0 : y = 0
        · have hz := tz_zero x m hx8 hm (by rw [← hy]; exact hy0)
          have hfin : s' = foldS bs (8 * (k + 1)) := by
            rw [hs', show 8 * (k + 1) = 8 * k + m + (8 - m) from by omega]
            refine (foldS_skip bs (8 * k + m) (8 - m) (fun q hq => ?_)).symm
            rw [Nat.add_assoc, dbit_at bs k (m + q) (by omega), ← HX.out]
            exact hz (m + q) (by omega) (by omega)
          have HF := Lib.hid hfin
          subst hy0
          clear hy hs' hfin
          go_wp2
          go_roundw
          case rel => exact ⟨k + 1, s', (t + o) % 2, by omega, by go_num, HF.out, HTN2.out, rfl, congrArg (Value.int .i64) HXOR.out, hb2⟩
          case measure => simp [intOf]; omega
        · obtain ⟨g1, g2, g3, g4, g5, g6⟩ := tz_pos x m hx8 hm (by rw [← hy]; exact hy0)
          rw [← hy] at g1 g2 g3 g4 g5 g6
          obtain ⟨r, hr⟩ : ∃ r, r = Lib.trailingZeros8 y := ⟨_, rfl⟩
          rw [← hr] at g2 g3 g4 g5 g6
          have HT1 := Lib.hid (fun W => HT.out y g1 W)
          rw [← hr] at HT1
          have hst : foldS bs (8 * k + (r + 1)) = s' ^^^ plc (8 * k + r) := by
            have e1 : foldS bs (8 * k + r) = s' := by
              rw [hs', show 8 * k + r = 8 * k + m + (r - m) from by omega]
              refine foldS_skip bs (8 * k + m) (r - m) (fun q hq => ?_)
              rw [Nat.add_assoc, dbit_at bs k (m + q) (by omega), ← HX.out]
              exact g6 (m + q) (by omega) (by omega)
            have e2 : foldS bs (8 * k + (r + 1)) = if dbit bs (8 * k + r) = 1 then foldS bs (8 * k + r) ^^^ plc (8 * k + r) else foldS bs (8 * k + r) := rfl
            rw [e2, dbit_at bs k r g2, ← HX.out, if_pos g4, e1]
          have hs4 : s' < 4096 := by rw [hs']; exact foldS_lt bs _ (by omega)
          obtain ⟨P, hP⟩ : ∃ P, P = 8 * k + r := ⟨_, rfl⟩
          have hP2 : P < 2048 := by omega
          have hor : bits .or .i64 ((k : Int) * 8) (r : Int) = (P : Int) := by rw [i64_or_low k r hlt g2, hP]
          have HP1 := Lib.hid (fun W => HP.out P hP2 W)
          have hpl := plc_lt P hP2
          rw [← hP] at hst
          obtain ⟨L, hL⟩ : ∃ L, L = plc P := ⟨_, rfl⟩
          rw [← hL] at hst hpl HP1
          have hxr : bits .xor .i64 (s' : Int) (L : Int) = ((s' ^^^ L : Nat) : Int) := i64_xor_nat s' L hs4 hpl
          obtain ⟨Z, hZ⟩ : ∃ Z, Z = s' ^^^ L := ⟨_, rfl⟩
          rw [← hZ] at hxr hst
          obtain ⟨y2, hy2⟩ : ∃ y2, y2 = y &&& (y - 1) := ⟨_, rfl⟩
          have hand2 : bits .and .u8 (y : Int) ((y : Int) - 1) = (y2 : Int) := by
            have e : ((y : Int) - 1) = ((y - 1 : Nat) : Int) := by omega
            rw [e, u8_and_nat y (y - 1) g1 (by omega), hy2]
          have hy2lt : y2 ≤ y - 1 := by rw [hy2]; exact Nat.and_le_right
          rw [← hy2] at g5
          have G5 := Lib.hid g5
          have HST := Lib.hid hst
          have hyp : 0 < y := by omega
          have hyi : ¬ (y : Int) = 0 := by omega
          clear hy hs' hr g5 g6 hst hP hL hZ hy2 g4
          go_wp2_with (first
            | (go_at_call 65; refine (HT1.out _).mono ?_; rintro e w3 ⟨rfl, rfl⟩)
            | (go_at_call 66; refine (HP1.out _).mono ?_; rintro e w3 ⟨rfl, rfl⟩))
          go_roundw
          case rel => exact ⟨r + 1, Z, y2, by omega, G5.out, HST.out.symm, rfl, rfl, trivial⟩
          case measure => simp [intOf]; omega
    · obtain rfl : k = 256 := by omega
      have HS := Lib.hid hs
      have HT3 := Lib.hid ht
      clear hs ht
      go_wp2
      go_ret2
      exact ⟨by rw [HS.out, HT3.out]; rfl, hb⟩
end Go.Proofs.YtljdfhckllncoaaK

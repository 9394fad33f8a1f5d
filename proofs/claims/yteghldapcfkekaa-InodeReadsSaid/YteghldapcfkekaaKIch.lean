import Derived.Test.YteghldapcfkekaaKIchP
import Derived.Test.YteghldapcfkekaaKBox
import Derived.Test.YteghldapcfkekaaKBsV
namespace Go.Proofs.YteghldapcfkekaaK
open Go.RowKit
set_option linter.unusedSimpArgs false
set_option linter.unusedVariables false
/-! inode.Check. -/
/-- What stays while an entry is looked at. -/
def ckB (w wr : World) (o : Obj) (v : Value) (es : List (List UInt8 × Int)) (nm0 : List UInt8) (y0 : Int) (W : World) : Prop :=
  Bx w o W ∧ W.cell? ⟨wr.heap.size, 0, none⟩ = some (.string (str nm0)) ∧ W.cell? ⟨wr.heap.size, 1, none⟩ = some (.int .i64 y0) ∧ Es W v es
theorem ckB.below {w wr : World} {o : Obj} {v : Value} {es : List (List UInt8 × Int)} {nm0 : List UInt8} {y0 : Int} {W W' : World} (h : ckB w wr o v es nm0 y0 W) (hb : Below W.heap.size W W') : ckB w wr o v es nm0 y0 W' :=
  ⟨h.1.go hb, (hb.cell (World.block_lt_of_cell? W _ h.2.1)).trans h.2.1, (hb.cell (World.block_lt_of_cell? W _ h.2.2.1)).trans h.2.2.1, h.2.2.2.below hb⟩
theorem ck_nofit {es : List (List UInt8 × Int)} {i : Nat} (h : fitsB (nmA es i) (inA es i) = false) : okAt es i = false := by
  cases i with
  | zero => exact h
  | succ i => rw [okAt_step, h]; rfl
theorem ck_succ {es : List (List UInt8 × Int)} {i : Nat} (h : ¬ i = 0) : okAt es i = (fitsB (nmA es i) (inA es i) && decide (cmpI (nmA es (i - 1)) (nmA es i) < 0)) := by
  cases i with
  | zero => exact absurd rfl h
  | succ i => rfl
theorem ck_nums (i n : Nat) (h0 : 0 < i) (h : i < n) (hn : n ≤ 9223372036854775807) : (0 : Int) ≤ ((i - 1 : Nat) : Int) ∧ ((i - 1 : Nat) : Int) < n ∧ (i - 1 : Nat) < n ∧ ((i : Int) - 1).toNat = i - 1 ∧ IntKind.i64.wrap ((i : Int) - 1) = ((i - 1 : Nat) : Int) ∧ wrap64 ((i : Int) - 1) = ((i - 1 : Nat) : Int) := by
  refine ⟨by omega, by omega, by omega, by omega, ?_, ?_⟩
  · rw [IntKind.wrap_i64]; omega
  · unfold wrap64; omega
theorem ck_cases (i : Nat) (h : i < 20) : i = 0 ∨ i = 1 ∨ i = 2 ∨ i = 3 ∨ i = 4 ∨ i = 5 ∨ i = 6 ∨ i = 7 ∨ i = 8 ∨ i = 9 ∨ i = 10 ∨ i = 11 ∨ i = 12 ∨ i = 13 ∨ i = 14 ∨ i = 15 ∨ i = 16 ∨ i = 17 ∨ i = 18 ∨ i = 19 := by omega
def ckFA (xb eb : Nat) (a : Addr) (m n c : Nat) (nm0 nm1 : List UInt8) (y0 y1 : Int) (b : Bool) : Nat → Value → World → Prop
  | 0, v, _ => v = .bool false
  | 1, v, _ => v = .bool false
  | 2, v, _ => v = undef
  | 3, v, _ => v = undef
  | 4, v, _ => v = .bool false
  | 5, v, _ => v = .bool false
  | 6, v, _ => v = undef
  | 7, v, _ => v = undef
  | 8, v, _ => v = undef
  | 9, v, _ => v = undef
  | 10, v, _ => v = undef
  | 11, v, _ => v = undef
  | 12, v, _ => v = undef
  | 13, v, _ => v = undef
  | 14, v, _ => v = undef
  | 15, v, _ => v = undef
  | 16, v, _ => v = undef
  | 17, v, _ => v = undef
  | 18, v, _ => v = undef
  | 19, v, _ => v = .bool false
  | _, _, _ => False
theorem ckFA_below {xb eb : Nat} {a : Addr} {m n c : Nat} {nm0 nm1 : List UInt8} {y0 y1 : Int} {b : Bool} (i : Nat) (v : Value) (w w' : World) (hb : Below w.heap.size w w') (h : ckFA xb eb a m n c nm0 nm1 y0 y1 b i v w) : ckFA xb eb a m n c nm0 nm1 y0 y1 b i v w' := by
  match i with
  | 0 | 1 | 2 | 3 | 4 | 5 | 6 | 7 | 8 | 9 | 10 | 11 => exact h
  | 12 | 13 | 14 | 15 | 16 | 17 | 18 | 19 => exact h
  | n + 20 => exact h
def ckFB (xb eb : Nat) (a : Addr) (m n c : Nat) (nm0 nm1 : List UInt8) (y0 y1 : Int) (b : Bool) : Nat → Value → World → Prop
  | 0, v, _ => v = .bool true
  | 1, v, _ => v = .bool true
  | 2, v, _ => v = .agg #[.string (str nm0), .int .i64 y0]
  | 3, v, _ => v = .bool false
  | 4, v, _ => v = .bool false
  | 5, v, _ => v = .bool false
  | 6, v, _ => v = undef
  | 7, v, _ => v = undef
  | 8, v, _ => v = undef
  | 9, v, _ => v = undef
  | 10, v, _ => v = undef
  | 11, v, _ => v = undef
  | 12, v, _ => v = undef
  | 13, v, _ => v = undef
  | 14, v, _ => v = undef
  | 15, v, _ => v = undef
  | 16, v, _ => v = undef
  | 17, v, _ => v = undef
  | 18, v, _ => v = undef
  | 19, v, _ => v = .bool false
  | _, _, _ => False
theorem ckFB_below {xb eb : Nat} {a : Addr} {m n c : Nat} {nm0 nm1 : List UInt8} {y0 y1 : Int} {b : Bool} (i : Nat) (v : Value) (w w' : World) (hb : Below w.heap.size w w') (h : ckFB xb eb a m n c nm0 nm1 y0 y1 b i v w) : ckFB xb eb a m n c nm0 nm1 y0 y1 b i v w' := by
  match i with
  | 0 | 1 | 2 | 3 | 4 | 5 | 6 | 7 | 8 | 9 | 10 | 11 => exact h
  | 12 | 13 | 14 | 15 | 16 | 17 | 18 | 19 => exact h
  | n + 20 => exact h
def ckFC (xb eb : Nat) (a : Addr) (m n c : Nat) (nm0 nm1 : List UInt8) (y0 y1 : Int) (b : Bool) : Nat → Value → World → Prop
  | 0, v, _ => v = .bool true
  | 1, v, _ => v = .bool true
  | 2, v, _ => v = .agg #[.string (str nm0), .int .i64 y0]
  | 3, v, _ => v = .bool true
  | 4, v, _ => v = .bool true
  | 5, v, _ => v = .bool true
  | 6, v, _ => v = .int .i64 (m : Int)
  | 7, v, _ => v = .bool true
  | 8, v, _ => v = .bool true
  | 9, v, _ => v = undef
  | 10, v, _ => v = undef
  | 11, v, _ => v = undef
  | 12, v, _ => v = undef
  | 13, v, _ => v = undef
  | 14, v, _ => v = undef
  | 15, v, _ => v = undef
  | 16, v, _ => v = undef
  | 17, v, _ => v = undef
  | 18, v, _ => v = .bool true
  | 19, v, _ => v = .bool true
  | _, _, _ => False
theorem ckFC_below {xb eb : Nat} {a : Addr} {m n c : Nat} {nm0 nm1 : List UInt8} {y0 y1 : Int} {b : Bool} (i : Nat) (v : Value) (w w' : World) (hb : Below w.heap.size w w') (h : ckFC xb eb a m n c nm0 nm1 y0 y1 b i v w) : ckFC xb eb a m n c nm0 nm1 y0 y1 b i v w' := by
  match i with
  | 0 | 1 | 2 | 3 | 4 | 5 | 6 | 7 | 8 | 9 | 10 | 11 => exact h
  | 12 | 13 | 14 | 15 | 16 | 17 | 18 | 19 => exact h
  | n + 20 => exact h
def ckFD (xb eb : Nat) (a : Addr) (m n c : Nat) (nm0 nm1 : List UInt8) (y0 y1 : Int) (b : Bool) : Nat → Value → World → Prop
  | 0, v, _ => v = .bool true
  | 1, v, _ => v = .bool true
  | 2, v, _ => v = .agg #[.string (str nm0), .int .i64 y0]
  | 3, v, _ => v = .bool true
  | 4, v, _ => v = .bool true
  | 5, v, _ => v = .bool true
  | 6, v, _ => v = .int .i64 (m : Int)
  | 7, v, _ => v = .bool false
  | 8, v, _ => v = .bool false
  | 9, v, _ => v = .pointer (some ⟨xb, 2, none⟩)
  | 10, v, _ => v = .slice (some a) n c
  | 11, v, _ => v = .int .i64 (m : Int)
  | 12, v, _ => v = .int .i64 ((m - 1 : Nat) : Int)
  | 13, v, _ => v = .pointer (some (a.add ((m - 1) * 2)))
  | 14, v, _ => v = .agg #[.string (str nm1), .int .i64 y1]
  | 15, v, _ => v = .agg #[.string (str nm0), .int .i64 y0]
  | 16, v, _ => v = .int .i64 (cmpI nm1 nm0)
  | 17, v, _ => v = .bool b
  | 18, v, _ => v = .bool b
  | 19, v, _ => v = .bool b
  | _, _, _ => False
theorem ckFD_below {xb eb : Nat} {a : Addr} {m n c : Nat} {nm0 nm1 : List UInt8} {y0 y1 : Int} {b : Bool} (i : Nat) (v : Value) (w w' : World) (hb : Below w.heap.size w w') (h : ckFD xb eb a m n c nm0 nm1 y0 y1 b i v w) : ckFD xb eb a m n c nm0 nm1 y0 y1 b i v w' := by
  match i with
  | 0 | 1 | 2 | 3 | 4 | 5 | 6 | 7 | 8 | 9 | 10 | 11 => exact h
  | 12 | 13 | 14 | 15 | 16 | 17 | 18 | 19 => exact h
  | n + 20 => exact h
set_option maxRecDepth 100000 in
set_option maxHeartbeats 8000000 in
theorem check_any (K Z : Int) (A : Option Addr) (n c : Nat) (es : List (List UInt8 × Int)) (w : World) (hE : Es w (.slice A n c) es) :
    Calls Try.prog 14 #[.agg #[.int .i64 K, .int .i64 Z, .slice A n c]] w fun e w' => e = .returned (.int .i64 (errI (rightI K Z es))) ∧ Below w.heap.size w w' := by
  obtain ⟨hn, hn63⟩ := hE.len
  obtain ⟨R, hR⟩ : ∃ R, R = rightI K Z es := ⟨_, rfl⟩
  rw [← hR]
  have HF := Lib.hid (fun s i W => fits_any s i W)
  have HY := Lib.hid (fun s t i j W => byName_any s t i j W)
  have HN := Lib.hid hn
  clear hn
  have HE := Lib.hid hE
  clear hE
  by_cases hk1 : K = 1
  · subst hk1
    by_cases hz0 : 0 ≤ Z
    rotate_left
    · have HR := Lib.hid (hR.trans (right1_00 hz0))
      have dz : decide (0 ≤ Z) = false := decide_eq_false hz0
      clear hR hz0
      go_enter Try.func14, Try.ntmps14
      go_wp2_with fail
      go_ret
      exact ⟨by rw [HR.out]; rfl, (Below.refl _ _).alloc (Nat.le_refl _) _⟩
    have dz : decide (0 ≤ Z) = true := decide_eq_true hz0
    by_cases hz1 : Z ≤ 768
    rotate_left
    · have HR := Lib.hid (hR.trans (right1_01 hz1))
      have dz1 : decide (Z ≤ 768) = false := decide_eq_false hz1
      clear hR hz1 hz0
      go_enter Try.func14, Try.ntmps14
      go_wp2_with fail
      go_ret
      exact ⟨by rw [HR.out]; rfl, (Below.refl _ _).alloc (Nat.le_refl _) _⟩
    have HR := Lib.hid (hR.trans (right1_1 hz0 hz1))
    have dz1 : decide (Z ≤ 768) = true := decide_eq_true hz1
    clear hR hz1 hz0
    rcases n with _ | m
    · have HR2 : Hid (R = true) := Lib.hid (by rw [HR.out, ← HN.out]; rfl)
      clear HR
      go_enter Try.func14, Try.ntmps14
      go_wp2_with fail
      go_ret
      exact ⟨by rw [HR2.out]; rfl, (Below.refl _ _).alloc (Nat.le_refl _) _⟩
    · have HR2 : Hid (R = false) := Lib.hid (by rw [HR.out, ← HN.out]; exact decide_eq_false (by omega))
      have hm : (((m + 1 : Nat) : Int) == 0) = false := beq_eq_false_iff_ne.2 (by omega)
      clear HR
      go_enter Try.func14, Try.ntmps14
      go_wp2_with fail
      go_ret
      exact ⟨by rw [HR2.out]; rfl, (Below.refl _ _).alloc (Nat.le_refl _) _⟩
  by_cases hk2 : K = 2
  rotate_left
  · have HR := Lib.hid (hR.trans (right_other hk1 hk2))
    have d1 : (K == 1) = false := beq_eq_false_iff_ne.2 hk1
    have d2 : (K == 2) = false := beq_eq_false_iff_ne.2 hk2
    clear hR hk1 hk2
    go_enter Try.func14, Try.ntmps14
    go_wp2_with fail
    go_ret
    exact ⟨by rw [HR.out]; rfl, (Below.refl _ _).alloc (Nat.le_refl _) _⟩
  subst hk2
  clear hk1
  have HR := Lib.hid (hR.trans right2)
  clear hR
  obtain ⟨l0, hl0⟩ : ∃ b, b = decide (es.length ≤ 8) := ⟨_, rfl⟩
  have hl0' : decide ((n : Int) ≤ 8) = l0 := by rw [hl0, HN.out]; exact decide_eq_decide.2 (by omega)
  rw [← hl0] at HR
  clear hl0
  by_cases hz : Z = 0
  rotate_left
  · have dz : (Z == 0) = false := beq_eq_false_iff_ne.2 hz
    have HR2 : Hid (R = false) := Lib.hid (by rw [HR.out, decide_eq_false hz]; rfl)
    clear HR hz
    go_enter Try.func14, Try.ntmps14
    go_wp2_with fail
    go_loopw [3, 38] (fun v3 v38 wr => ∃ i : Nat, i ≤ n ∧ v3 = .bool false ∧ v38 = .int .i64 (i : Int) ∧ Bx w (.cells #[.int .i64 2, .int .i64 Z, .slice A n c] 28) wr) (fun _ v38 _ => n - (intOf v38).toNat)
    case atStart => exact ⟨0, by omega, rfl, rfl, Bx.here _ _⟩
    case round =>
      obtain ⟨i, hi, rfl, rfl, hbr⟩ := hrel
      by_cases hlt : i < n
      · obtain ⟨a, rfl, hc0, hc1⟩ := (HE.out.below hbr.below).at_ i (by rw [← HN.out]; exact hlt)
        obtain ⟨nm0, hs0⟩ : ∃ x, x = nmA es i := ⟨_, rfl⟩
        obtain ⟨y0, hy0⟩ : ∃ x, x = inA es i := ⟨_, rfl⟩
        rw [← hs0] at hc0
        rw [← hy0] at hc1
        have HIE : Hid (i < es.length) := Lib.hid (by rw [← HN.out]; exact hlt)
        have HS0 := Lib.hid hs0
        have HY0 := Lib.hid hy0
        clear hs0 hy0
        have hii : (i : Int) < n := by omega
        obtain ⟨nm1, y1, b, _⟩ : ∃ (nm1 : List UInt8) (y1 : Int) (b : Bool), True := ⟨[], 0, true, trivial⟩
        go_wp2_with fail
        have hB0 : ckB w wr (.cells #[.int .i64 2, .int .i64 Z, .slice (some a) n c] 28) (.slice (some a) n c) es nm0 y0 (wr.alloc (.cells #[.string (str nm0), .int .i64 y0] 46)).drew := ⟨(hbr.alloc _).drew, new_cell_drew _ _ _ 0 _ rfl, new_cell_drew _ _ _ 1 _ rfl, (HE.out.below hbr.below).below ((Below.refl _ _).alloc (Nat.le_refl _) _).drew⟩
        refine wp_region_front 20 [43, 44, 45, 46, 47, 48, 49, 50, 51, 52, 53, 54, 55, 56, 57, 58, 59, 60, 61, 62] 1 #[true, true, true, true, true, true, true, true, true, true, true, true, true, true, true, true, true, true, true, true, false] (ckB w wr (.cells #[.int .i64 2, .int .i64 Z, .slice (some a) n c] 28) (.slice (some a) n c) es nm0 y0) (ckFA (w.heap.size) (wr.heap.size) a i n c nm0 nm1 y0 y1 b) yesP (by kernel_rfl) (by kernel_rfl) (by kernel_rfl) (by kernel_rfl) (by kernel_rfl) (fun _ _ hb h => h.below hb) (@ckFA_below (w.heap.size) (wr.heap.size) a i n c nm0 nm1 y0 y1 b) hB0 ?_ ?_
        · intro q hq s w9 hs hB hd
          have s1 : s 1 = .pointer (some ⟨w.heap.size, 0, none⟩) := hs 1 (by decide)
          have s3 : s 3 = .bool false := hs 3 (by decide)
          have s4 : s 4 = .int .i64 (i : Int) := hs 4 (by decide)
          have s5 : s 5 = .pointer (some ⟨wr.heap.size, 0, none⟩) := hs 5 (by decide)
          obtain rfl | rfl | rfl | rfl | rfl | rfl | rfl | rfl | rfl | rfl | rfl | rfl | rfl | rfl | rfl | rfl | rfl | rfl | rfl | rfl : q = 0 ∨ q = 1 ∨ q = 2 ∨ q = 3 ∨ q = 4 ∨ q = 5 ∨ q = 6 ∨ q = 7 ∨ q = 8 ∨ q = 9 ∨ q = 10 ∨ q = 11 ∨ q = 12 ∨ q = 13 ∨ q = 14 ∨ q = 15 ∨ q = 16 ∨ q = 17 ∨ q = 18 ∨ q = 19 := ck_cases q hq
          · exact stepG_plain (by rfl) (stepS_move _ rfl ⟨Below.refl _ _, s3, fun j _ _ u _ => ⟨trivial, trivial⟩⟩)
          · have h0 : s 43 = .bool false := hd 0 (by decide +kernel)
            exact stepG_plain (by rfl) (stepS_move _ rfl ⟨Below.refl _ _, h0, fun j _ _ u _ => ⟨trivial, trivial⟩⟩)
          · have h1 : s 44 = .bool false := hd 1 (by decide +kernel)
            exact stepG_not (b := true) (g := 1) (by rfl) h1 ⟨Below.refl _ _, rfl, fun j _ _ u _ => ⟨trivial, trivial⟩⟩
          · have h1 : s 44 = .bool false := hd 1 (by decide +kernel)
            exact stepG_not (b := true) (g := 1) (by rfl) h1 ⟨Below.refl _ _, rfl, fun j _ _ u _ => ⟨trivial, trivial⟩⟩
          · have h1 : s 44 = .bool false := hd 1 (by decide +kernel)
            have h3 : s 46 = undef := hd 3 (by decide +kernel)
            refine stepG_plain (by rfl) (stepS_run (v := .bool false) ?_ ⟨Below.refl _ _, rfl, fun j _ _ u _ => ⟨trivial, trivial⟩⟩)
            simp [execOp, evS, h1, h3, Result.andThen, go_sem]
          · have h4 : s 47 = .bool false := hd 4 (by decide +kernel)
            exact stepG_plain (by rfl) (stepS_move _ rfl ⟨Below.refl _ _, h4, fun j _ _ u _ => ⟨trivial, trivial⟩⟩)
          · have h5 : s 48 = .bool false := hd 5 (by decide +kernel)
            exact stepG_not (b := true) (g := 5) (by rfl) h5 ⟨Below.refl _ _, rfl, fun j _ _ u _ => ⟨trivial, trivial⟩⟩
          · have h5 : s 48 = .bool false := hd 5 (by decide +kernel)
            exact stepG_not (b := true) (g := 5) (by rfl) h5 ⟨Below.refl _ _, rfl, fun j _ _ u _ => ⟨trivial, trivial⟩⟩
          · have h5 : s 48 = .bool false := hd 5 (by decide +kernel)
            exact stepG_not (b := true) (g := 5) (by rfl) h5 ⟨Below.refl _ _, rfl, fun j _ _ u _ => ⟨trivial, trivial⟩⟩
          · have h8 : s 51 = undef := hd 8 (by decide +kernel)
            exact stepG_undef (b := false) (g := 8) (by rfl) h8 ⟨Below.refl _ _, rfl, fun j _ _ u _ => ⟨trivial, trivial⟩⟩
          · have h8 : s 51 = undef := hd 8 (by decide +kernel)
            exact stepG_undef (b := false) (g := 8) (by rfl) h8 ⟨Below.refl _ _, rfl, fun j _ _ u _ => ⟨trivial, trivial⟩⟩
          · have h8 : s 51 = undef := hd 8 (by decide +kernel)
            exact stepG_undef (b := false) (g := 8) (by rfl) h8 ⟨Below.refl _ _, rfl, fun j _ _ u _ => ⟨trivial, trivial⟩⟩
          · have h8 : s 51 = undef := hd 8 (by decide +kernel)
            exact stepG_undef (b := false) (g := 8) (by rfl) h8 ⟨Below.refl _ _, rfl, fun j _ _ u _ => ⟨trivial, trivial⟩⟩
          · have h8 : s 51 = undef := hd 8 (by decide +kernel)
            exact stepG_undef (b := false) (g := 8) (by rfl) h8 ⟨Below.refl _ _, rfl, fun j _ _ u _ => ⟨trivial, trivial⟩⟩
          · have h8 : s 51 = undef := hd 8 (by decide +kernel)
            exact stepG_undef (b := false) (g := 8) (by rfl) h8 ⟨Below.refl _ _, rfl, fun j _ _ u _ => ⟨trivial, trivial⟩⟩
          · have h8 : s 51 = undef := hd 8 (by decide +kernel)
            exact stepG_undef (b := false) (g := 8) (by rfl) h8 ⟨Below.refl _ _, rfl, fun j _ _ u _ => ⟨trivial, trivial⟩⟩
          · have h8 : s 51 = undef := hd 8 (by decide +kernel)
            exact stepG_undef (b := false) (g := 8) (by rfl) h8 ⟨Below.refl _ _, rfl, fun j _ _ u _ => ⟨trivial, trivial⟩⟩
          · have h8 : s 51 = undef := hd 8 (by decide +kernel)
            exact stepG_undef (b := false) (g := 8) (by rfl) h8 ⟨Below.refl _ _, rfl, fun j _ _ u _ => ⟨trivial, trivial⟩⟩
          · have h5 : s 48 = .bool false := hd 5 (by decide +kernel)
            exact stepG_not (b := true) (g := 5) (by rfl) h5 ⟨Below.refl _ _, rfl, fun j _ _ u _ => ⟨trivial, trivial⟩⟩
          · have h5 : s 48 = .bool false := hd 5 (by decide +kernel)
            have h18 : s 61 = undef := hd 18 (by decide +kernel)
            refine stepG_plain (by rfl) (stepS_run (v := .bool false) ?_ ⟨Below.refl _ _, rfl, fun j _ _ u _ => ⟨trivial, trivial⟩⟩)
            simp [execOp, evS, h5, h18, Result.andThen, go_sem]
        · intro s w9 hB hd _
          have h19 : s 62 = .bool false := hd 19 (by decide)
          refine wpAny_one 20 _ (by kernel_rfl) (by simp only [List.getElem?_toArray, List.getElem?_cons_succ, List.getElem?_cons_zero]; rfl) (by rfl) ?_
          refine StepS.wp (K := fun v w' => v = .bool false ∧ w' = w9) ?_ ?_
          · refine stepS_assign _ rfl ⟨?_, rfl⟩
            simp [evS, setAll, h19]
          rintro v w' ⟨rfl, rfl⟩
          refine wpAny_end (by kernel_rfl) ?_
          obtain ⟨hBx, _⟩ := hB
          clear hd h19 hB0
          simp only [setAll, List.foldl_cons, List.foldl_nil, List.getElem_toArray, List.getElem_cons_succ, List.getElem_cons_zero, Act.put, List.setIfInBounds_toArray, List.set_cons_zero, List.set_cons_succ]
          go_wp2_with fail
          go_roundw
          case rel => exact ⟨i + 1, by omega, rfl, by go_num, hBx⟩
          case measure => simp [intOf]; omega
      · have hin : i = n := by omega
        subst hin
        skip
        go_wp2_with fail
        go_ret
        exact ⟨by rw [HR2.out]; rfl, hbr.below⟩
  have dz : (Z == 0) = true := beq_iff_eq.2 hz
  have HR2 : Hid (R = (l0 && ordB es es.length)) := Lib.hid (by rw [HR.out, decide_eq_true hz]; rfl)
  clear HR hz
  go_enter Try.func14, Try.ntmps14
  go_wp2_with fail
  go_loopw [3, 38] (fun v3 v38 wr => ∃ i : Nat, i ≤ n ∧ v3 = .bool (l0 && ordB es i) ∧ v38 = .int .i64 (i : Int) ∧ Bx w (.cells #[.int .i64 2, .int .i64 Z, .slice A n c] 28) wr) (fun _ v38 _ => n - (intOf v38).toNat)
  case atStart => exact ⟨0, by omega, by rw [show ordB es 0 = true from rfl, Bool.and_true], rfl, Bx.here _ _⟩
  case round =>
    obtain ⟨i, hi, rfl, rfl, hbr⟩ := hrel
    by_cases hlt : i < n
    · obtain ⟨a, rfl, hc0, hc1⟩ := (HE.out.below hbr.below).at_ i (by rw [← HN.out]; exact hlt)
      obtain ⟨nm0, hs0⟩ : ∃ x, x = nmA es i := ⟨_, rfl⟩
      obtain ⟨y0, hy0⟩ : ∃ x, x = inA es i := ⟨_, rfl⟩
      rw [← hs0] at hc0
      rw [← hy0] at hc1
      have HIE : Hid (i < es.length) := Lib.hid (by rw [← HN.out]; exact hlt)
      have HS0 := Lib.hid hs0
      have HY0 := Lib.hid hy0
      clear hs0 hy0
      have hii : (i : Int) < n := by omega
      obtain ⟨b0, hb0⟩ : ∃ b, b = (l0 && ordB es i) := ⟨_, rfl⟩
      rw [← hb0]
      have HB0 := Lib.hid hb0
      clear hb0
      rcases b0 with _ | _
      · obtain ⟨nm1, y1, b, _⟩ : ∃ (nm1 : List UInt8) (y1 : Int) (b : Bool), True := ⟨[], 0, true, trivial⟩
        have HST : Hid ((l0 && ordB es (i + 1)) = false) := Lib.hid (by rw [ordB_step, ← Bool.and_assoc, ← HB0.out]; rfl)
        go_wp2_with fail
        have hB0 : ckB w wr (.cells #[.int .i64 2, .int .i64 Z, .slice (some a) n c] 28) (.slice (some a) n c) es nm0 y0 (wr.alloc (.cells #[.string (str nm0), .int .i64 y0] 46)).drew := ⟨(hbr.alloc _).drew, new_cell_drew _ _ _ 0 _ rfl, new_cell_drew _ _ _ 1 _ rfl, (HE.out.below hbr.below).below ((Below.refl _ _).alloc (Nat.le_refl _) _).drew⟩
        refine wp_region_front 20 [43, 44, 45, 46, 47, 48, 49, 50, 51, 52, 53, 54, 55, 56, 57, 58, 59, 60, 61, 62] 1 #[true, true, true, true, true, true, true, true, true, true, true, true, true, true, true, true, true, true, true, true, false] (ckB w wr (.cells #[.int .i64 2, .int .i64 Z, .slice (some a) n c] 28) (.slice (some a) n c) es nm0 y0) (ckFA (w.heap.size) (wr.heap.size) a i n c nm0 nm1 y0 y1 b) yesP (by kernel_rfl) (by kernel_rfl) (by kernel_rfl) (by kernel_rfl) (by kernel_rfl) (fun _ _ hb h => h.below hb) (@ckFA_below (w.heap.size) (wr.heap.size) a i n c nm0 nm1 y0 y1 b) hB0 ?_ ?_
        · intro q hq s w9 hs hB hd
          have s1 : s 1 = .pointer (some ⟨w.heap.size, 0, none⟩) := hs 1 (by decide)
          have s3 : s 3 = .bool false := hs 3 (by decide)
          have s4 : s 4 = .int .i64 (i : Int) := hs 4 (by decide)
          have s5 : s 5 = .pointer (some ⟨wr.heap.size, 0, none⟩) := hs 5 (by decide)
          obtain rfl | rfl | rfl | rfl | rfl | rfl | rfl | rfl | rfl | rfl | rfl | rfl | rfl | rfl | rfl | rfl | rfl | rfl | rfl | rfl : q = 0 ∨ q = 1 ∨ q = 2 ∨ q = 3 ∨ q = 4 ∨ q = 5 ∨ q = 6 ∨ q = 7 ∨ q = 8 ∨ q = 9 ∨ q = 10 ∨ q = 11 ∨ q = 12 ∨ q = 13 ∨ q = 14 ∨ q = 15 ∨ q = 16 ∨ q = 17 ∨ q = 18 ∨ q = 19 := ck_cases q hq
          · exact stepG_plain (by rfl) (stepS_move _ rfl ⟨Below.refl _ _, s3, fun j _ _ u _ => ⟨trivial, trivial⟩⟩)
          · have h0 : s 43 = .bool false := hd 0 (by decide +kernel)
            exact stepG_plain (by rfl) (stepS_move _ rfl ⟨Below.refl _ _, h0, fun j _ _ u _ => ⟨trivial, trivial⟩⟩)
          · have h1 : s 44 = .bool false := hd 1 (by decide +kernel)
            exact stepG_not (b := true) (g := 1) (by rfl) h1 ⟨Below.refl _ _, rfl, fun j _ _ u _ => ⟨trivial, trivial⟩⟩
          · have h1 : s 44 = .bool false := hd 1 (by decide +kernel)
            exact stepG_not (b := true) (g := 1) (by rfl) h1 ⟨Below.refl _ _, rfl, fun j _ _ u _ => ⟨trivial, trivial⟩⟩
          · have h1 : s 44 = .bool false := hd 1 (by decide +kernel)
            have h3 : s 46 = undef := hd 3 (by decide +kernel)
            refine stepG_plain (by rfl) (stepS_run (v := .bool false) ?_ ⟨Below.refl _ _, rfl, fun j _ _ u _ => ⟨trivial, trivial⟩⟩)
            simp [execOp, evS, h1, h3, Result.andThen, go_sem]
          · have h4 : s 47 = .bool false := hd 4 (by decide +kernel)
            exact stepG_plain (by rfl) (stepS_move _ rfl ⟨Below.refl _ _, h4, fun j _ _ u _ => ⟨trivial, trivial⟩⟩)
          · have h5 : s 48 = .bool false := hd 5 (by decide +kernel)
            exact stepG_not (b := true) (g := 5) (by rfl) h5 ⟨Below.refl _ _, rfl, fun j _ _ u _ => ⟨trivial, trivial⟩⟩
          · have h5 : s 48 = .bool false := hd 5 (by decide +kernel)
            exact stepG_not (b := true) (g := 5) (by rfl) h5 ⟨Below.refl _ _, rfl, fun j _ _ u _ => ⟨trivial, trivial⟩⟩
          · have h5 : s 48 = .bool false := hd 5 (by decide +kernel)
            exact stepG_not (b := true) (g := 5) (by rfl) h5 ⟨Below.refl _ _, rfl, fun j _ _ u _ => ⟨trivial, trivial⟩⟩
          · have h8 : s 51 = undef := hd 8 (by decide +kernel)
            exact stepG_undef (b := false) (g := 8) (by rfl) h8 ⟨Below.refl _ _, rfl, fun j _ _ u _ => ⟨trivial, trivial⟩⟩
          · have h8 : s 51 = undef := hd 8 (by decide +kernel)
            exact stepG_undef (b := false) (g := 8) (by rfl) h8 ⟨Below.refl _ _, rfl, fun j _ _ u _ => ⟨trivial, trivial⟩⟩
          · have h8 : s 51 = undef := hd 8 (by decide +kernel)
            exact stepG_undef (b := false) (g := 8) (by rfl) h8 ⟨Below.refl _ _, rfl, fun j _ _ u _ => ⟨trivial, trivial⟩⟩
          · have h8 : s 51 = undef := hd 8 (by decide +kernel)
            exact stepG_undef (b := false) (g := 8) (by rfl) h8 ⟨Below.refl _ _, rfl, fun j _ _ u _ => ⟨trivial, trivial⟩⟩
          · have h8 : s 51 = undef := hd 8 (by decide +kernel)
            exact stepG_undef (b := false) (g := 8) (by rfl) h8 ⟨Below.refl _ _, rfl, fun j _ _ u _ => ⟨trivial, trivial⟩⟩
          · have h8 : s 51 = undef := hd 8 (by decide +kernel)
            exact stepG_undef (b := false) (g := 8) (by rfl) h8 ⟨Below.refl _ _, rfl, fun j _ _ u _ => ⟨trivial, trivial⟩⟩
          · have h8 : s 51 = undef := hd 8 (by decide +kernel)
            exact stepG_undef (b := false) (g := 8) (by rfl) h8 ⟨Below.refl _ _, rfl, fun j _ _ u _ => ⟨trivial, trivial⟩⟩
          · have h8 : s 51 = undef := hd 8 (by decide +kernel)
            exact stepG_undef (b := false) (g := 8) (by rfl) h8 ⟨Below.refl _ _, rfl, fun j _ _ u _ => ⟨trivial, trivial⟩⟩
          · have h8 : s 51 = undef := hd 8 (by decide +kernel)
            exact stepG_undef (b := false) (g := 8) (by rfl) h8 ⟨Below.refl _ _, rfl, fun j _ _ u _ => ⟨trivial, trivial⟩⟩
          · have h5 : s 48 = .bool false := hd 5 (by decide +kernel)
            exact stepG_not (b := true) (g := 5) (by rfl) h5 ⟨Below.refl _ _, rfl, fun j _ _ u _ => ⟨trivial, trivial⟩⟩
          · have h5 : s 48 = .bool false := hd 5 (by decide +kernel)
            have h18 : s 61 = undef := hd 18 (by decide +kernel)
            refine stepG_plain (by rfl) (stepS_run (v := .bool false) ?_ ⟨Below.refl _ _, rfl, fun j _ _ u _ => ⟨trivial, trivial⟩⟩)
            simp [execOp, evS, h5, h18, Result.andThen, go_sem]
        · intro s w9 hB hd _
          have h19 : s 62 = .bool false := hd 19 (by decide)
          refine wpAny_one 20 _ (by kernel_rfl) (by simp only [List.getElem?_toArray, List.getElem?_cons_succ, List.getElem?_cons_zero]; rfl) (by rfl) ?_
          refine StepS.wp (K := fun v w' => v = .bool false ∧ w' = w9) ?_ ?_
          · refine stepS_assign _ rfl ⟨?_, rfl⟩
            simp [evS, setAll, h19]
          rintro v w' ⟨rfl, rfl⟩
          refine wpAny_end (by kernel_rfl) ?_
          obtain ⟨hBx, _⟩ := hB
          clear hd h19 hB0
          simp only [setAll, List.foldl_cons, List.foldl_nil, List.getElem_toArray, List.getElem_cons_succ, List.getElem_cons_zero, Act.put, List.setIfInBounds_toArray, List.set_cons_zero, List.set_cons_succ]
          go_wp2_with fail
          go_roundw
          case rel => exact ⟨i + 1, by omega, by rw [HST.out], by go_num, hBx⟩
          case measure => simp [intOf]; omega
      rcases hfb : fitsB nm0 y0 with _ | _
      · obtain ⟨nm1, y1, b, _⟩ : ∃ (nm1 : List UInt8) (y1 : Int) (b : Bool), True := ⟨[], 0, true, trivial⟩
        have HST : Hid ((l0 && ordB es (i + 1)) = false) := Lib.hid (by rw [ordB_step, ck_nofit (by rw [← HS0.out, ← HY0.out]; exact hfb), Bool.and_false, Bool.and_false])
        have HV := Lib.hid hfb
        clear hfb
        go_wp2_with fail
        have hB0 : ckB w wr (.cells #[.int .i64 2, .int .i64 Z, .slice (some a) n c] 28) (.slice (some a) n c) es nm0 y0 (wr.alloc (.cells #[.string (str nm0), .int .i64 y0] 46)).drew := ⟨(hbr.alloc _).drew, new_cell_drew _ _ _ 0 _ rfl, new_cell_drew _ _ _ 1 _ rfl, (HE.out.below hbr.below).below ((Below.refl _ _).alloc (Nat.le_refl _) _).drew⟩
        refine wp_region_front 20 [43, 44, 45, 46, 47, 48, 49, 50, 51, 52, 53, 54, 55, 56, 57, 58, 59, 60, 61, 62] 1 #[true, true, true, true, true, true, true, true, true, true, true, true, true, true, true, true, true, true, true, true, false] (ckB w wr (.cells #[.int .i64 2, .int .i64 Z, .slice (some a) n c] 28) (.slice (some a) n c) es nm0 y0) (ckFB (w.heap.size) (wr.heap.size) a i n c nm0 nm1 y0 y1 b) yesP (by kernel_rfl) (by kernel_rfl) (by kernel_rfl) (by kernel_rfl) (by kernel_rfl) (fun _ _ hb h => h.below hb) (@ckFB_below (w.heap.size) (wr.heap.size) a i n c nm0 nm1 y0 y1 b) hB0 ?_ ?_
        · intro q hq s w9 hs hB hd
          have s1 : s 1 = .pointer (some ⟨w.heap.size, 0, none⟩) := hs 1 (by decide)
          have s3 : s 3 = .bool true := hs 3 (by decide)
          have s4 : s 4 = .int .i64 (i : Int) := hs 4 (by decide)
          have s5 : s 5 = .pointer (some ⟨wr.heap.size, 0, none⟩) := hs 5 (by decide)
          obtain rfl | rfl | rfl | rfl | rfl | rfl | rfl | rfl | rfl | rfl | rfl | rfl | rfl | rfl | rfl | rfl | rfl | rfl | rfl | rfl : q = 0 ∨ q = 1 ∨ q = 2 ∨ q = 3 ∨ q = 4 ∨ q = 5 ∨ q = 6 ∨ q = 7 ∨ q = 8 ∨ q = 9 ∨ q = 10 ∨ q = 11 ∨ q = 12 ∨ q = 13 ∨ q = 14 ∨ q = 15 ∨ q = 16 ∨ q = 17 ∨ q = 18 ∨ q = 19 := ck_cases q hq
          · exact stepG_plain (by rfl) (stepS_move _ rfl ⟨Below.refl _ _, s3, fun j _ _ u _ => ⟨trivial, trivial⟩⟩)
          · have h0 : s 43 = .bool true := hd 0 (by decide +kernel)
            exact stepG_plain (by rfl) (stepS_move _ rfl ⟨Below.refl _ _, h0, fun j _ _ u _ => ⟨trivial, trivial⟩⟩)
          · have h1 : s 44 = .bool true := hd 1 (by decide +kernel)
            refine stepG_struck (b := true) (g := 1) (by rfl) h1 (stepS_run (v := .agg #[.string (str nm0), .int .i64 y0]) ?_ ⟨Below.refl _ _, rfl, fun j _ _ u _ => ⟨trivial, trivial⟩⟩)
            simp [execOp, evS, s5, hB.2.1, hB.2.2.1, Result.andThen, go_sem]
          · have h1 : s 44 = .bool true := hd 1 (by decide +kernel)
            have h2 : s 45 = .agg #[.string (str nm0), .int .i64 y0] := hd 2 (by decide +kernel)
            refine stepG_struck (b := true) (g := 1) (by rfl) h1 ?_
            refine stepS_call rfl Try.func28 (by kernel_rfl) (by kernel_rfl) #[.agg #[.string (str nm0), .int .i64 y0]] (by simp [evS, h2]) ?_
            refine (HF.out nm0 y0 w9).mono ?_
            rintro e w10 ⟨rfl, hb⟩
            exact ⟨_, rfl, hb, by show _ = _; rw [HV.out], fun j _ _ u _ => ⟨trivial, trivial⟩⟩
          · have h1 : s 44 = .bool true := hd 1 (by decide +kernel)
            have h3 : s 46 = .bool false := hd 3 (by decide +kernel)
            refine stepG_plain (by rfl) (stepS_run (v := .bool false) ?_ ⟨Below.refl _ _, rfl, fun j _ _ u _ => ⟨trivial, trivial⟩⟩)
            simp [execOp, evS, h1, h3, Result.andThen, go_sem]
          · have h4 : s 47 = .bool false := hd 4 (by decide +kernel)
            exact stepG_plain (by rfl) (stepS_move _ rfl ⟨Below.refl _ _, h4, fun j _ _ u _ => ⟨trivial, trivial⟩⟩)
          · have h5 : s 48 = .bool false := hd 5 (by decide +kernel)
            exact stepG_not (b := true) (g := 5) (by rfl) h5 ⟨Below.refl _ _, rfl, fun j _ _ u _ => ⟨trivial, trivial⟩⟩
          · have h5 : s 48 = .bool false := hd 5 (by decide +kernel)
            exact stepG_not (b := true) (g := 5) (by rfl) h5 ⟨Below.refl _ _, rfl, fun j _ _ u _ => ⟨trivial, trivial⟩⟩
          · have h5 : s 48 = .bool false := hd 5 (by decide +kernel)
            exact stepG_not (b := true) (g := 5) (by rfl) h5 ⟨Below.refl _ _, rfl, fun j _ _ u _ => ⟨trivial, trivial⟩⟩
          · have h8 : s 51 = undef := hd 8 (by decide +kernel)
            exact stepG_undef (b := false) (g := 8) (by rfl) h8 ⟨Below.refl _ _, rfl, fun j _ _ u _ => ⟨trivial, trivial⟩⟩
          · have h8 : s 51 = undef := hd 8 (by decide +kernel)
            exact stepG_undef (b := false) (g := 8) (by rfl) h8 ⟨Below.refl _ _, rfl, fun j _ _ u _ => ⟨trivial, trivial⟩⟩
          · have h8 : s 51 = undef := hd 8 (by decide +kernel)
            exact stepG_undef (b := false) (g := 8) (by rfl) h8 ⟨Below.refl _ _, rfl, fun j _ _ u _ => ⟨trivial, trivial⟩⟩
          · have h8 : s 51 = undef := hd 8 (by decide +kernel)
            exact stepG_undef (b := false) (g := 8) (by rfl) h8 ⟨Below.refl _ _, rfl, fun j _ _ u _ => ⟨trivial, trivial⟩⟩
          · have h8 : s 51 = undef := hd 8 (by decide +kernel)
            exact stepG_undef (b := false) (g := 8) (by rfl) h8 ⟨Below.refl _ _, rfl, fun j _ _ u _ => ⟨trivial, trivial⟩⟩
          · have h8 : s 51 = undef := hd 8 (by decide +kernel)
            exact stepG_undef (b := false) (g := 8) (by rfl) h8 ⟨Below.refl _ _, rfl, fun j _ _ u _ => ⟨trivial, trivial⟩⟩
          · have h8 : s 51 = undef := hd 8 (by decide +kernel)
            exact stepG_undef (b := false) (g := 8) (by rfl) h8 ⟨Below.refl _ _, rfl, fun j _ _ u _ => ⟨trivial, trivial⟩⟩
          · have h8 : s 51 = undef := hd 8 (by decide +kernel)
            exact stepG_undef (b := false) (g := 8) (by rfl) h8 ⟨Below.refl _ _, rfl, fun j _ _ u _ => ⟨trivial, trivial⟩⟩
          · have h8 : s 51 = undef := hd 8 (by decide +kernel)
            exact stepG_undef (b := false) (g := 8) (by rfl) h8 ⟨Below.refl _ _, rfl, fun j _ _ u _ => ⟨trivial, trivial⟩⟩
          · have h5 : s 48 = .bool false := hd 5 (by decide +kernel)
            exact stepG_not (b := true) (g := 5) (by rfl) h5 ⟨Below.refl _ _, rfl, fun j _ _ u _ => ⟨trivial, trivial⟩⟩
          · have h5 : s 48 = .bool false := hd 5 (by decide +kernel)
            have h18 : s 61 = undef := hd 18 (by decide +kernel)
            refine stepG_plain (by rfl) (stepS_run (v := .bool false) ?_ ⟨Below.refl _ _, rfl, fun j _ _ u _ => ⟨trivial, trivial⟩⟩)
            simp [execOp, evS, h5, h18, Result.andThen, go_sem]
        · intro s w9 hB hd _
          have h19 : s 62 = .bool false := hd 19 (by decide)
          refine wpAny_one 20 _ (by kernel_rfl) (by simp only [List.getElem?_toArray, List.getElem?_cons_succ, List.getElem?_cons_zero]; rfl) (by rfl) ?_
          refine StepS.wp (K := fun v w' => v = .bool false ∧ w' = w9) ?_ ?_
          · refine stepS_assign _ rfl ⟨?_, rfl⟩
            simp [evS, setAll, h19]
          rintro v w' ⟨rfl, rfl⟩
          refine wpAny_end (by kernel_rfl) ?_
          obtain ⟨hBx, _⟩ := hB
          clear hd h19 hB0
          simp only [setAll, List.foldl_cons, List.foldl_nil, List.getElem_toArray, List.getElem_cons_succ, List.getElem_cons_zero, Act.put, List.setIfInBounds_toArray, List.set_cons_zero, List.set_cons_succ]
          go_wp2_with fail
          go_roundw
          case rel => exact ⟨i + 1, by omega, by rw [HST.out], by go_num, hBx⟩
          case measure => simp [intOf]; omega
      have HV := Lib.hid hfb
      clear hfb
      by_cases hi0 : i = 0
      · obtain ⟨nm1, y1, b, _⟩ : ∃ (nm1 : List UInt8) (y1 : Int) (b : Bool), True := ⟨[], 0, true, trivial⟩
        have HST : Hid ((l0 && ordB es (i + 1)) = true) := Lib.hid (by rw [ordB_step, ← Bool.and_assoc, ← HB0.out, hi0]; show (true && fitsB (nmA es 0) (inA es 0)) = true; rw [← hi0, ← HS0.out, ← HY0.out, HV.out]; rfl)
        have hI0 : ((i : Int) == 0) = true := beq_iff_eq.2 (by omega)
        clear hi0
        go_wp2_with fail
        have hB0 : ckB w wr (.cells #[.int .i64 2, .int .i64 Z, .slice (some a) n c] 28) (.slice (some a) n c) es nm0 y0 (wr.alloc (.cells #[.string (str nm0), .int .i64 y0] 46)).drew := ⟨(hbr.alloc _).drew, new_cell_drew _ _ _ 0 _ rfl, new_cell_drew _ _ _ 1 _ rfl, (HE.out.below hbr.below).below ((Below.refl _ _).alloc (Nat.le_refl _) _).drew⟩
        refine wp_region_front 20 [43, 44, 45, 46, 47, 48, 49, 50, 51, 52, 53, 54, 55, 56, 57, 58, 59, 60, 61, 62] 1 #[true, true, true, true, true, true, true, true, true, true, true, true, true, true, true, true, true, true, true, true, false] (ckB w wr (.cells #[.int .i64 2, .int .i64 Z, .slice (some a) n c] 28) (.slice (some a) n c) es nm0 y0) (ckFC (w.heap.size) (wr.heap.size) a i n c nm0 nm1 y0 y1 b) yesP (by kernel_rfl) (by kernel_rfl) (by kernel_rfl) (by kernel_rfl) (by kernel_rfl) (fun _ _ hb h => h.below hb) (@ckFC_below (w.heap.size) (wr.heap.size) a i n c nm0 nm1 y0 y1 b) hB0 ?_ ?_
        · intro q hq s w9 hs hB hd
          have s1 : s 1 = .pointer (some ⟨w.heap.size, 0, none⟩) := hs 1 (by decide)
          have s3 : s 3 = .bool true := hs 3 (by decide)
          have s4 : s 4 = .int .i64 (i : Int) := hs 4 (by decide)
          have s5 : s 5 = .pointer (some ⟨wr.heap.size, 0, none⟩) := hs 5 (by decide)
          obtain rfl | rfl | rfl | rfl | rfl | rfl | rfl | rfl | rfl | rfl | rfl | rfl | rfl | rfl | rfl | rfl | rfl | rfl | rfl | rfl : q = 0 ∨ q = 1 ∨ q = 2 ∨ q = 3 ∨ q = 4 ∨ q = 5 ∨ q = 6 ∨ q = 7 ∨ q = 8 ∨ q = 9 ∨ q = 10 ∨ q = 11 ∨ q = 12 ∨ q = 13 ∨ q = 14 ∨ q = 15 ∨ q = 16 ∨ q = 17 ∨ q = 18 ∨ q = 19 := ck_cases q hq
          · exact stepG_plain (by rfl) (stepS_move _ rfl ⟨Below.refl _ _, s3, fun j _ _ u _ => ⟨trivial, trivial⟩⟩)
          · have h0 : s 43 = .bool true := hd 0 (by decide +kernel)
            exact stepG_plain (by rfl) (stepS_move _ rfl ⟨Below.refl _ _, h0, fun j _ _ u _ => ⟨trivial, trivial⟩⟩)
          · have h1 : s 44 = .bool true := hd 1 (by decide +kernel)
            refine stepG_struck (b := true) (g := 1) (by rfl) h1 (stepS_run (v := .agg #[.string (str nm0), .int .i64 y0]) ?_ ⟨Below.refl _ _, rfl, fun j _ _ u _ => ⟨trivial, trivial⟩⟩)
            simp [execOp, evS, s5, hB.2.1, hB.2.2.1, Result.andThen, go_sem]
          · have h1 : s 44 = .bool true := hd 1 (by decide +kernel)
            have h2 : s 45 = .agg #[.string (str nm0), .int .i64 y0] := hd 2 (by decide +kernel)
            refine stepG_struck (b := true) (g := 1) (by rfl) h1 ?_
            refine stepS_call rfl Try.func28 (by kernel_rfl) (by kernel_rfl) #[.agg #[.string (str nm0), .int .i64 y0]] (by simp [evS, h2]) ?_
            refine (HF.out nm0 y0 w9).mono ?_
            rintro e w10 ⟨rfl, hb⟩
            exact ⟨_, rfl, hb, by show _ = _; rw [HV.out], fun j _ _ u _ => ⟨trivial, trivial⟩⟩
          · have h1 : s 44 = .bool true := hd 1 (by decide +kernel)
            have h3 : s 46 = .bool true := hd 3 (by decide +kernel)
            refine stepG_plain (by rfl) (stepS_run (v := .bool true) ?_ ⟨Below.refl _ _, rfl, fun j _ _ u _ => ⟨trivial, trivial⟩⟩)
            simp [execOp, evS, h1, h3, Result.andThen, go_sem]
          · have h4 : s 47 = .bool true := hd 4 (by decide +kernel)
            exact stepG_plain (by rfl) (stepS_move _ rfl ⟨Below.refl _ _, h4, fun j _ _ u _ => ⟨trivial, trivial⟩⟩)
          · have h5 : s 48 = .bool true := hd 5 (by decide +kernel)
            exact stepG_struck (b := true) (g := 5) (by rfl) h5 (stepS_move _ rfl ⟨Below.refl _ _, s4, fun j _ _ u _ => ⟨trivial, trivial⟩⟩)
          · have h5 : s 48 = .bool true := hd 5 (by decide +kernel)
            have h6 : s 49 = .int .i64 (i : Int) := hd 6 (by decide +kernel)
            refine stepG_struck (b := true) (g := 5) (by rfl) h5 (stepS_run (v := .bool true) ?_ ⟨Below.refl _ _, rfl, fun j _ _ u _ => ⟨trivial, trivial⟩⟩)
            simp [execOp, evS, h6, hI0, Result.andThen, go_sem]
          · have h5 : s 48 = .bool true := hd 5 (by decide +kernel)
            have h7 : s 50 = .bool true := hd 7 (by decide +kernel)
            exact stepG_struck (b := true) (g := 5) (by rfl) h5 (stepS_move _ rfl ⟨Below.refl _ _, h7, fun j _ _ u _ => ⟨trivial, trivial⟩⟩)
          · have h8 : s 51 = .bool true := hd 8 (by decide +kernel)
            exact stepG_not (b := false) (g := 8) (by rfl) h8 ⟨Below.refl _ _, rfl, fun j _ _ u _ => ⟨trivial, trivial⟩⟩
          · have h8 : s 51 = .bool true := hd 8 (by decide +kernel)
            exact stepG_not (b := false) (g := 8) (by rfl) h8 ⟨Below.refl _ _, rfl, fun j _ _ u _ => ⟨trivial, trivial⟩⟩
          · have h8 : s 51 = .bool true := hd 8 (by decide +kernel)
            exact stepG_not (b := false) (g := 8) (by rfl) h8 ⟨Below.refl _ _, rfl, fun j _ _ u _ => ⟨trivial, trivial⟩⟩
          · have h8 : s 51 = .bool true := hd 8 (by decide +kernel)
            exact stepG_not (b := false) (g := 8) (by rfl) h8 ⟨Below.refl _ _, rfl, fun j _ _ u _ => ⟨trivial, trivial⟩⟩
          · have h8 : s 51 = .bool true := hd 8 (by decide +kernel)
            exact stepG_not (b := false) (g := 8) (by rfl) h8 ⟨Below.refl _ _, rfl, fun j _ _ u _ => ⟨trivial, trivial⟩⟩
          · have h8 : s 51 = .bool true := hd 8 (by decide +kernel)
            exact stepG_not (b := false) (g := 8) (by rfl) h8 ⟨Below.refl _ _, rfl, fun j _ _ u _ => ⟨trivial, trivial⟩⟩
          · have h8 : s 51 = .bool true := hd 8 (by decide +kernel)
            exact stepG_not (b := false) (g := 8) (by rfl) h8 ⟨Below.refl _ _, rfl, fun j _ _ u _ => ⟨trivial, trivial⟩⟩
          · have h8 : s 51 = .bool true := hd 8 (by decide +kernel)
            exact stepG_not (b := false) (g := 8) (by rfl) h8 ⟨Below.refl _ _, rfl, fun j _ _ u _ => ⟨trivial, trivial⟩⟩
          · have h8 : s 51 = .bool true := hd 8 (by decide +kernel)
            exact stepG_not (b := false) (g := 8) (by rfl) h8 ⟨Below.refl _ _, rfl, fun j _ _ u _ => ⟨trivial, trivial⟩⟩
          · have h5 : s 48 = .bool true := hd 5 (by decide +kernel)
            have h8 : s 51 = .bool true := hd 8 (by decide +kernel)
            have h17 : s 60 = undef := hd 17 (by decide +kernel)
            refine stepG_struck (b := true) (g := 5) (by rfl) h5 (stepS_run (v := .bool true) ?_ ⟨Below.refl _ _, rfl, fun j _ _ u _ => ⟨trivial, trivial⟩⟩)
            simp [execOp, evS, h8, h17, Result.andThen, go_sem]
          · have h5 : s 48 = .bool true := hd 5 (by decide +kernel)
            have h18 : s 61 = .bool true := hd 18 (by decide +kernel)
            refine stepG_plain (by rfl) (stepS_run (v := .bool true) ?_ ⟨Below.refl _ _, rfl, fun j _ _ u _ => ⟨trivial, trivial⟩⟩)
            simp [execOp, evS, h5, h18, Result.andThen, go_sem]
        · intro s w9 hB hd _
          have h19 : s 62 = .bool true := hd 19 (by decide)
          refine wpAny_one 20 _ (by kernel_rfl) (by simp only [List.getElem?_toArray, List.getElem?_cons_succ, List.getElem?_cons_zero]; rfl) (by rfl) ?_
          refine StepS.wp (K := fun v w' => v = .bool true ∧ w' = w9) ?_ ?_
          · refine stepS_assign _ rfl ⟨?_, rfl⟩
            simp [evS, setAll, h19]
          rintro v w' ⟨rfl, rfl⟩
          refine wpAny_end (by kernel_rfl) ?_
          obtain ⟨hBx, _⟩ := hB
          clear hd h19 hB0
          simp only [setAll, List.foldl_cons, List.foldl_nil, List.getElem_toArray, List.getElem_cons_succ, List.getElem_cons_zero, Act.put, List.setIfInBounds_toArray, List.set_cons_zero, List.set_cons_succ]
          go_wp2_with fail
          go_roundw
          case rel => exact ⟨i + 1, by omega, by rw [HST.out], by go_num, hBx⟩
          case measure => simp [intOf]; omega
      obtain ⟨nm1, hs1⟩ : ∃ x, x = nmA es (i - 1) := ⟨_, rfl⟩
      obtain ⟨y1, hy1⟩ : ∃ x, x = inA es (i - 1) := ⟨_, rfl⟩
      obtain ⟨b, hCB⟩ : ∃ b, decide (cmpI nm1 nm0 < 0) = b := ⟨_, rfl⟩
      have HST : Hid ((l0 && ordB es (i + 1)) = b) := Lib.hid (by
        rw [ordB_step, ← Bool.and_assoc, ← HB0.out, Bool.true_and, ck_succ hi0, ← HS0.out, ← HY0.out, HV.out, ← hs1, hCB, Bool.true_and])
      have HS1 := Lib.hid hs1
      have HY1 := Lib.hid hy1
      have hI0 : ((i : Int) == 0) = false := beq_eq_false_iff_ne.2 (by omega)
      obtain ⟨hi1, hi2, hi3, hi4, hW1, hW2⟩ := ck_nums i n (Nat.pos_of_ne_zero hi0) hlt hn63
      clear hi0 hs1 hy1
      go_wp2_with fail
      have hB0 : ckB w wr (.cells #[.int .i64 2, .int .i64 Z, .slice (some a) n c] 28) (.slice (some a) n c) es nm0 y0 (wr.alloc (.cells #[.string (str nm0), .int .i64 y0] 46)).drew := ⟨(hbr.alloc _).drew, new_cell_drew _ _ _ 0 _ rfl, new_cell_drew _ _ _ 1 _ rfl, (HE.out.below hbr.below).below ((Below.refl _ _).alloc (Nat.le_refl _) _).drew⟩
      refine wp_region_front 20 [43, 44, 45, 46, 47, 48, 49, 50, 51, 52, 53, 54, 55, 56, 57, 58, 59, 60, 61, 62] 1 #[true, true, true, true, true, true, true, true, true, true, true, true, true, true, true, true, true, true, true, true, false] (ckB w wr (.cells #[.int .i64 2, .int .i64 Z, .slice (some a) n c] 28) (.slice (some a) n c) es nm0 y0) (ckFD (w.heap.size) (wr.heap.size) a i n c nm0 nm1 y0 y1 b) yesP (by kernel_rfl) (by kernel_rfl) (by kernel_rfl) (by kernel_rfl) (by kernel_rfl) (fun _ _ hb h => h.below hb) (@ckFD_below (w.heap.size) (wr.heap.size) a i n c nm0 nm1 y0 y1 b) hB0 ?_ ?_
      · intro q hq s w9 hs hB hd
        have s1 : s 1 = .pointer (some ⟨w.heap.size, 0, none⟩) := hs 1 (by decide)
        have s3 : s 3 = .bool true := hs 3 (by decide)
        have s4 : s 4 = .int .i64 (i : Int) := hs 4 (by decide)
        have s5 : s 5 = .pointer (some ⟨wr.heap.size, 0, none⟩) := hs 5 (by decide)
        obtain ⟨a', ha', hp0, hp1⟩ := hB.2.2.2.at_ (i - 1) (Nat.lt_of_le_of_lt (Nat.sub_le _ _) HIE.out)
        cases ha'
        rw [← HS1.out] at hp0
        rw [← HY1.out] at hp1
        obtain rfl | rfl | rfl | rfl | rfl | rfl | rfl | rfl | rfl | rfl | rfl | rfl | rfl | rfl | rfl | rfl | rfl | rfl | rfl | rfl : q = 0 ∨ q = 1 ∨ q = 2 ∨ q = 3 ∨ q = 4 ∨ q = 5 ∨ q = 6 ∨ q = 7 ∨ q = 8 ∨ q = 9 ∨ q = 10 ∨ q = 11 ∨ q = 12 ∨ q = 13 ∨ q = 14 ∨ q = 15 ∨ q = 16 ∨ q = 17 ∨ q = 18 ∨ q = 19 := ck_cases q hq
        · exact stepG_plain (by rfl) (stepS_move _ rfl ⟨Below.refl _ _, s3, fun j _ _ u _ => ⟨trivial, trivial⟩⟩)
        · have h0 : s 43 = .bool true := hd 0 (by decide +kernel)
          exact stepG_plain (by rfl) (stepS_move _ rfl ⟨Below.refl _ _, h0, fun j _ _ u _ => ⟨trivial, trivial⟩⟩)
        · have h1 : s 44 = .bool true := hd 1 (by decide +kernel)
          refine stepG_struck (b := true) (g := 1) (by rfl) h1 (stepS_run (v := .agg #[.string (str nm0), .int .i64 y0]) ?_ ⟨Below.refl _ _, rfl, fun j _ _ u _ => ⟨trivial, trivial⟩⟩)
          simp [execOp, evS, s5, hB.2.1, hB.2.2.1, Result.andThen, go_sem]
        · have h1 : s 44 = .bool true := hd 1 (by decide +kernel)
          have h2 : s 45 = .agg #[.string (str nm0), .int .i64 y0] := hd 2 (by decide +kernel)
          refine stepG_struck (b := true) (g := 1) (by rfl) h1 ?_
          refine stepS_call rfl Try.func28 (by kernel_rfl) (by kernel_rfl) #[.agg #[.string (str nm0), .int .i64 y0]] (by simp [evS, h2]) ?_
          refine (HF.out nm0 y0 w9).mono ?_
          rintro e w10 ⟨rfl, hb⟩
          exact ⟨_, rfl, hb, by show _ = _; rw [HV.out], fun j _ _ u _ => ⟨trivial, trivial⟩⟩
        · have h1 : s 44 = .bool true := hd 1 (by decide +kernel)
          have h3 : s 46 = .bool true := hd 3 (by decide +kernel)
          refine stepG_plain (by rfl) (stepS_run (v := .bool true) ?_ ⟨Below.refl _ _, rfl, fun j _ _ u _ => ⟨trivial, trivial⟩⟩)
          simp [execOp, evS, h1, h3, Result.andThen, go_sem]
        · have h4 : s 47 = .bool true := hd 4 (by decide +kernel)
          exact stepG_plain (by rfl) (stepS_move _ rfl ⟨Below.refl _ _, h4, fun j _ _ u _ => ⟨trivial, trivial⟩⟩)
        · have h5 : s 48 = .bool true := hd 5 (by decide +kernel)
          exact stepG_struck (b := true) (g := 5) (by rfl) h5 (stepS_move _ rfl ⟨Below.refl _ _, s4, fun j _ _ u _ => ⟨trivial, trivial⟩⟩)
        · have h5 : s 48 = .bool true := hd 5 (by decide +kernel)
          have h6 : s 49 = .int .i64 (i : Int) := hd 6 (by decide +kernel)
          refine stepG_struck (b := true) (g := 5) (by rfl) h5 (stepS_run (v := .bool false) ?_ ⟨Below.refl _ _, rfl, fun j _ _ u _ => ⟨trivial, trivial⟩⟩)
          simp [execOp, evS, h6, hI0, Result.andThen, go_sem]
        · have h5 : s 48 = .bool true := hd 5 (by decide +kernel)
          have h7 : s 50 = .bool false := hd 7 (by decide +kernel)
          exact stepG_struck (b := true) (g := 5) (by rfl) h5 (stepS_move _ rfl ⟨Below.refl _ _, h7, fun j _ _ u _ => ⟨trivial, trivial⟩⟩)
        · have h8 : s 51 = .bool false := hd 8 (by decide +kernel)
          refine stepG_struck (b := false) (g := 8) (by rfl) h8 (stepS_run (v := .pointer (some ⟨w.heap.size, 2, none⟩)) ?_ ⟨Below.refl _ _, rfl, fun j _ _ u _ => ⟨trivial, trivial⟩⟩)
          simp [execOp, evS, s1, Result.andThen, go_sem]
        · have h8 : s 51 = .bool false := hd 8 (by decide +kernel)
          have h9 : s 52 = .pointer (some ⟨w.heap.size, 2, none⟩) := hd 9 (by decide +kernel)
          refine stepG_struck (b := false) (g := 8) (by rfl) h8 (stepS_run (v := .slice (some a) n c) ?_ ⟨Below.refl _ _, rfl, fun j _ _ u _ => ⟨trivial, trivial⟩⟩)
          simp [execOp, evS, h9, hB.1.cell 2 _ rfl, Result.andThen, go_sem]
        · have h8 : s 51 = .bool false := hd 8 (by decide +kernel)
          exact stepG_struck (b := false) (g := 8) (by rfl) h8 (stepS_move _ rfl ⟨Below.refl _ _, s4, fun j _ _ u _ => ⟨trivial, trivial⟩⟩)
        · have h8 : s 51 = .bool false := hd 8 (by decide +kernel)
          have h11 : s 54 = .int .i64 (i : Int) := hd 11 (by decide +kernel)
          refine stepG_struck (b := false) (g := 8) (by rfl) h8 (stepS_run (v := .int .i64 ((i - 1 : Nat) : Int)) ?_ ⟨Below.refl _ _, rfl, fun j _ _ u _ => ⟨trivial, trivial⟩⟩)
          simp [execOp, evS, h11, hW1, hW2, Result.andThen, go_sem]
        · have h8 : s 51 = .bool false := hd 8 (by decide +kernel)
          have h10 : s 53 = .slice (some a) n c := hd 10 (by decide +kernel)
          have h12 : s 55 = .int .i64 ((i - 1 : Nat) : Int) := hd 12 (by decide +kernel)
          refine stepG_struck (b := false) (g := 8) (by rfl) h8 (stepS_run (v := .pointer (some (a.add ((i - 1) * 2)))) ?_ ⟨Below.refl _ _, rfl, fun j _ _ u _ => ⟨trivial, trivial⟩⟩)
          simp [execOp, evS, h10, h12, hi1, hi2, hi3, hi4, Result.andThen, go_sem]
        · have h8 : s 51 = .bool false := hd 8 (by decide +kernel)
          have h13 : s 56 = .pointer (some (a.add ((i - 1) * 2))) := hd 13 (by decide +kernel)
          refine stepG_struck (b := false) (g := 8) (by rfl) h8 (stepS_run (v := .agg #[.string (str nm1), .int .i64 y1]) ?_ ⟨Below.refl _ _, rfl, fun j _ _ u _ => ⟨trivial, trivial⟩⟩)
          simp [execOp, evS, h13, hp0, hp1, Result.andThen, go_sem]
        · have h8 : s 51 = .bool false := hd 8 (by decide +kernel)
          refine stepG_struck (b := false) (g := 8) (by rfl) h8 (stepS_run (v := .agg #[.string (str nm0), .int .i64 y0]) ?_ ⟨Below.refl _ _, rfl, fun j _ _ u _ => ⟨trivial, trivial⟩⟩)
          simp [execOp, evS, s5, hB.2.1, hB.2.2.1, Result.andThen, go_sem]
        · have h8 : s 51 = .bool false := hd 8 (by decide +kernel)
          have h14 : s 57 = .agg #[.string (str nm1), .int .i64 y1] := hd 14 (by decide +kernel)
          have h15 : s 58 = .agg #[.string (str nm0), .int .i64 y0] := hd 15 (by decide +kernel)
          refine stepG_struck (b := false) (g := 8) (by rfl) h8 ?_
          refine stepS_call rfl Try.func29 (by kernel_rfl) (by kernel_rfl) #[.agg #[.string (str nm1), .int .i64 y1], .agg #[.string (str nm0), .int .i64 y0]] (by simp [evS, h14, h15]) ?_
          refine (HY.out nm1 nm0 y1 y0 w9).mono ?_
          rintro e w10 ⟨rfl, hb⟩
          exact ⟨_, rfl, hb, rfl, fun j _ _ u _ => ⟨trivial, trivial⟩⟩
        · have h8 : s 51 = .bool false := hd 8 (by decide +kernel)
          have h16 : s 59 = .int .i64 (cmpI nm1 nm0) := hd 16 (by decide +kernel)
          refine stepG_struck (b := false) (g := 8) (by rfl) h8 (stepS_run (v := .bool b) ?_ ⟨Below.refl _ _, rfl, fun j _ _ u _ => ⟨trivial, trivial⟩⟩)
          simp [execOp, evS, h16, hCB, Result.andThen, go_sem]
        · have h5 : s 48 = .bool true := hd 5 (by decide +kernel)
          have h8 : s 51 = .bool false := hd 8 (by decide +kernel)
          have h17 : s 60 = .bool b := hd 17 (by decide +kernel)
          refine stepG_struck (b := true) (g := 5) (by rfl) h5 (stepS_run (v := .bool b) ?_ ⟨Below.refl _ _, rfl, fun j _ _ u _ => ⟨trivial, trivial⟩⟩)
          simp [execOp, evS, h8, h17, Result.andThen, go_sem]
        · have h5 : s 48 = .bool true := hd 5 (by decide +kernel)
          have h18 : s 61 = .bool b := hd 18 (by decide +kernel)
          refine stepG_plain (by rfl) (stepS_run (v := .bool b) ?_ ⟨Below.refl _ _, rfl, fun j _ _ u _ => ⟨trivial, trivial⟩⟩)
          simp [execOp, evS, h5, h18, Result.andThen, go_sem]
      · intro s w9 hB hd _
        have h19 : s 62 = .bool b := hd 19 (by decide)
        refine wpAny_one 20 _ (by kernel_rfl) (by simp only [List.getElem?_toArray, List.getElem?_cons_succ, List.getElem?_cons_zero]; rfl) (by rfl) ?_
        refine StepS.wp (K := fun v w' => v = .bool b ∧ w' = w9) ?_ ?_
        · refine stepS_assign _ rfl ⟨?_, rfl⟩
          simp [evS, setAll, h19]
        rintro v w' ⟨rfl, rfl⟩
        refine wpAny_end (by kernel_rfl) ?_
        obtain ⟨hBx, _⟩ := hB
        clear hd h19 hB0
        simp only [setAll, List.foldl_cons, List.foldl_nil, List.getElem_toArray, List.getElem_cons_succ, List.getElem_cons_zero, Act.put, List.setIfInBounds_toArray, List.set_cons_zero, List.set_cons_succ]
        go_wp2_with fail
        go_roundw
        case rel => exact ⟨i + 1, by omega, by rw [HST.out], by go_num, hBx⟩
        case measure => simp [intOf]; omega
    · have hin : i = n := by omega
      subst hin
      obtain ⟨b9, hb9⟩ : ∃ b, b = (l0 && ordB es i) := ⟨_, rfl⟩
      rw [← hb9]
      have HR3 : Hid (R = b9) := Lib.hid (by rw [HR2.out, hb9, ← HN.out])
      clear hb9
      rcases b9 with _ | _
      · go_wp2_with fail
        go_ret
        exact ⟨by rw [HR3.out]; rfl, hbr.below⟩
      · go_wp2_with fail
        go_ret
        exact ⟨by rw [HR3.out]; rfl, hbr.below⟩
end Go.Proofs.YteghldapcfkekaaK

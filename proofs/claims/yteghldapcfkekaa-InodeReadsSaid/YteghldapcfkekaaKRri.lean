import Derived.Test.YteghldapcfkekaaKIwrP
import Derived.Test.YteghldapcfkekaaKFitR
import Derived.Deep.DeepCutAuto
namespace Go.Proofs.YteghldapcfkekaaK
open Go.RowKit
set_option linter.unusedSimpArgs false
set_option linter.unusedVariables false
/-! The reference's Right. -/
def rrB (w : World) (o : Obj) (v : Value) (es : List (List UInt8 × Int)) (W : World) : Prop := Bx w o W ∧ Es W v es
theorem rrB.below {w : World} {o : Obj} {v : Value} {es : List (List UInt8 × Int)} {W W' : World} (h : rrB w o v es W) (hb : Below W.heap.size W W') : rrB w o v es W' := ⟨h.1.go hb, h.2.below hb⟩
theorem ordB_stop {es : List (List UInt8 × Int)} {i : Nat} (h : okAt es i = false) : ∀ k, i < k → ordB es k = false := by
  intro k
  induction k with
  | zero => intro h; omega
  | succ k ih =>
    intro hk
    rw [ordB_step]
    by_cases e : i = k
    · subst e; rw [h, Bool.and_false]
    · rw [ih (by omega)]; rfl
theorem right2_stop {Z : Int} {es : List (List UInt8 × Int)} {i : Nat} (hi : i < es.length) (h : okAt es i = false) : rightI 2 Z es = false := by
  rw [right2, ordB_stop h _ hi, Bool.and_false]
theorem rri_cases (i : Nat) (h : i < 27) : i = 0 ∨ i = 1 ∨ i = 2 ∨ i = 3 ∨ i = 4 ∨ i = 5 ∨ i = 6 ∨ i = 7 ∨ i = 8 ∨ i = 9 ∨ i = 10 ∨ i = 11 ∨ i = 12 ∨ i = 13 ∨ i = 14 ∨ i = 15 ∨ i = 16 ∨ i = 17 ∨ i = 18 ∨ i = 19 ∨ i = 20 ∨ i = 21 ∨ i = 22 ∨ i = 23 ∨ i = 24 ∨ i = 25 ∨ i = 26 := by omega
theorem rr_num0 (i n : Nat) (h : i < n) : (0 : Int) ≤ i ∧ (i : Int) < n := by omega
theorem cmp_neg (s t : List UInt8) : decide (cmpI s t < 0) = Op.bytesLess s t := by
  unfold cmpI
  cases Op.bytesLess s t with
  | true => rfl
  | false => by_cases h : (s == t) = true <;> simp [h]
def rrFA (xb : Nat) (a : Addr) (m n c : Nat) (nm0 nm1 : List UInt8) (y0 : Int) : Nat → Value → World → Prop
  | 0, v, _ => v = .pointer (some ⟨xb, 2, none⟩)
  | 1, v, _ => v = .slice (some a) n c
  | 2, v, _ => v = .int .i64 (m : Int)
  | 3, v, _ => v = .pointer (some (a.add (m * 2)))
  | 4, v, _ => v = .agg #[.string (str nm0), .int .i64 y0]
  | 5, v, _ => v = .bool false
  | 6, v, _ => v = .bool true
  | 7, v, _ => v = .bool true
  | 8, v, _ => v = undef
  | 9, v, _ => v = undef
  | 10, v, _ => v = undef
  | 11, v, _ => v = undef
  | 12, v, _ => v = undef
  | 13, v, _ => v = undef
  | 14, v, _ => v = undef
  | 15, v, _ => v = undef
  | 16, v, _ => v = undef
  | 17, v, _ => v = undef
  | 18, v, _ => v = undef
  | 19, v, _ => v = undef
  | 20, v, _ => v = undef
  | 21, v, _ => v = undef
  | 22, v, _ => v = undef
  | 23, v, _ => v = undef
  | 24, v, _ => v = undef
  | 25, v, _ => v = undef
  | 26, v, _ => v = .bool true
  | _, _, _ => False
theorem rrFA_below {xb : Nat} {a : Addr} {m n c : Nat} {nm0 nm1 : List UInt8} {y0 : Int} (i : Nat) (v : Value) (w w' : World) (hb : Below w.heap.size w w') (h : rrFA xb a m n c nm0 nm1 y0 i v w) : rrFA xb a m n c nm0 nm1 y0 i v w' := by
  match i with
  | 0 | 1 | 2 | 3 | 4 | 5 | 6 | 7 | 8 | 9 | 10 | 11 => exact h
  | 12 | 13 | 14 | 15 | 16 | 17 | 18 | 19 | 20 | 21 | 22 | 23 => exact h
  | 24 | 25 | 26 => exact h
  | n + 27 => exact h
def rrFB (xb : Nat) (a : Addr) (m n c : Nat) (nm0 nm1 : List UInt8) (y0 : Int) : Nat → Value → World → Prop
  | 0, v, _ => v = .pointer (some ⟨xb, 2, none⟩)
  | 1, v, _ => v = .slice (some a) n c
  | 2, v, _ => v = .int .i64 (m : Int)
  | 3, v, _ => v = .pointer (some (a.add (m * 2)))
  | 4, v, _ => v = .agg #[.string (str nm0), .int .i64 y0]
  | 5, v, _ => v = .bool true
  | 6, v, _ => v = .bool false
  | 7, v, _ => v = .bool false
  | 8, v, _ => v = .int .i64 (m : Int)
  | 9, v, _ => v = .bool false
  | 10, v, _ => v = .bool false
  | 11, v, _ => v = undef
  | 12, v, _ => v = undef
  | 13, v, _ => v = undef
  | 14, v, _ => v = undef
  | 15, v, _ => v = undef
  | 16, v, _ => v = undef
  | 17, v, _ => v = undef
  | 18, v, _ => v = undef
  | 19, v, _ => v = undef
  | 20, v, _ => v = undef
  | 21, v, _ => v = undef
  | 22, v, _ => v = undef
  | 23, v, _ => v = undef
  | 24, v, _ => v = undef
  | 25, v, _ => v = .bool false
  | 26, v, _ => v = .bool false
  | _, _, _ => False
theorem rrFB_below {xb : Nat} {a : Addr} {m n c : Nat} {nm0 nm1 : List UInt8} {y0 : Int} (i : Nat) (v : Value) (w w' : World) (hb : Below w.heap.size w w') (h : rrFB xb a m n c nm0 nm1 y0 i v w) : rrFB xb a m n c nm0 nm1 y0 i v w' := by
  match i with
  | 0 | 1 | 2 | 3 | 4 | 5 | 6 | 7 | 8 | 9 | 10 | 11 => exact h
  | 12 | 13 | 14 | 15 | 16 | 17 | 18 | 19 | 20 | 21 | 22 | 23 => exact h
  | 24 | 25 | 26 => exact h
  | n + 27 => exact h
def rrFC (xb : Nat) (a : Addr) (m n c : Nat) (nm0 nm1 : List UInt8) (y0 : Int) : Nat → Value → World → Prop
  | 0, v, _ => v = .pointer (some ⟨xb, 2, none⟩)
  | 1, v, _ => v = .slice (some a) n c
  | 2, v, _ => v = .int .i64 (m : Int)
  | 3, v, _ => v = .pointer (some (a.add (m * 2)))
  | 4, v, _ => v = .agg #[.string (str nm0), .int .i64 y0]
  | 5, v, _ => v = .bool true
  | 6, v, _ => v = .bool false
  | 7, v, _ => v = .bool false
  | 8, v, _ => v = .int .i64 (m : Int)
  | 9, v, _ => v = .bool true
  | 10, v, _ => v = .bool true
  | 11, v, _ => v = .pointer (some ⟨xb, 2, none⟩)
  | 12, v, _ => v = .slice (some a) n c
  | 13, v, _ => v = .int .i64 (m : Int)
  | 14, v, _ => v = .int .i64 ((m - 1 : Nat) : Int)
  | 15, v, _ => v = .pointer (some (a.add ((m - 1) * 2)))
  | 16, v, _ => v = .pointer (some (a.add ((m - 1) * 2)))
  | 17, v, _ => v = .string (str nm1)
  | 18, v, _ => v = .pointer (some ⟨xb, 2, none⟩)
  | 19, v, _ => v = .slice (some a) n c
  | 20, v, _ => v = .int .i64 (m : Int)
  | 21, v, _ => v = .pointer (some (a.add (m * 2)))
  | 22, v, _ => v = .pointer (some (a.add (m * 2)))
  | 23, v, _ => v = .string (str nm0)
  | 24, v, _ => v = .bool true
  | 25, v, _ => v = .bool true
  | 26, v, _ => v = .bool true
  | _, _, _ => False
theorem rrFC_below {xb : Nat} {a : Addr} {m n c : Nat} {nm0 nm1 : List UInt8} {y0 : Int} (i : Nat) (v : Value) (w w' : World) (hb : Below w.heap.size w w') (h : rrFC xb a m n c nm0 nm1 y0 i v w) : rrFC xb a m n c nm0 nm1 y0 i v w' := by
  match i with
  | 0 | 1 | 2 | 3 | 4 | 5 | 6 | 7 | 8 | 9 | 10 | 11 => exact h
  | 12 | 13 | 14 | 15 | 16 | 17 | 18 | 19 | 20 | 21 | 22 | 23 => exact h
  | 24 | 25 | 26 => exact h
  | n + 27 => exact h
def rrFD (xb : Nat) (a : Addr) (m n c : Nat) (nm0 nm1 : List UInt8) (y0 : Int) : Nat → Value → World → Prop
  | 0, v, _ => v = .pointer (some ⟨xb, 2, none⟩)
  | 1, v, _ => v = .slice (some a) n c
  | 2, v, _ => v = .int .i64 (m : Int)
  | 3, v, _ => v = .pointer (some (a.add (m * 2)))
  | 4, v, _ => v = .agg #[.string (str nm0), .int .i64 y0]
  | 5, v, _ => v = .bool true
  | 6, v, _ => v = .bool false
  | 7, v, _ => v = .bool false
  | 8, v, _ => v = .int .i64 (m : Int)
  | 9, v, _ => v = .bool true
  | 10, v, _ => v = .bool true
  | 11, v, _ => v = .pointer (some ⟨xb, 2, none⟩)
  | 12, v, _ => v = .slice (some a) n c
  | 13, v, _ => v = .int .i64 (m : Int)
  | 14, v, _ => v = .int .i64 ((m - 1 : Nat) : Int)
  | 15, v, _ => v = .pointer (some (a.add ((m - 1) * 2)))
  | 16, v, _ => v = .pointer (some (a.add ((m - 1) * 2)))
  | 17, v, _ => v = .string (str nm1)
  | 18, v, _ => v = .pointer (some ⟨xb, 2, none⟩)
  | 19, v, _ => v = .slice (some a) n c
  | 20, v, _ => v = .int .i64 (m : Int)
  | 21, v, _ => v = .pointer (some (a.add (m * 2)))
  | 22, v, _ => v = .pointer (some (a.add (m * 2)))
  | 23, v, _ => v = .string (str nm0)
  | 24, v, _ => v = .bool false
  | 25, v, _ => v = .bool false
  | 26, v, _ => v = .bool false
  | _, _, _ => False
theorem rrFD_below {xb : Nat} {a : Addr} {m n c : Nat} {nm0 nm1 : List UInt8} {y0 : Int} (i : Nat) (v : Value) (w w' : World) (hb : Below w.heap.size w w') (h : rrFD xb a m n c nm0 nm1 y0 i v w) : rrFD xb a m n c nm0 nm1 y0 i v w' := by
  match i with
  | 0 | 1 | 2 | 3 | 4 | 5 | 6 | 7 | 8 | 9 | 10 | 11 => exact h
  | 12 | 13 | 14 | 15 | 16 | 17 | 18 | 19 | 20 | 21 | 22 | 23 => exact h
  | 24 | 25 | 26 => exact h
  | n + 27 => exact h
set_option maxRecDepth 100000 in
set_option maxHeartbeats 8000000 in
theorem rri_any (K Z : Int) (A : Option Addr) (n c : Nat) (es : List (List UInt8 × Int)) (w : World) (hE : Es w (.slice A n c) es) :
    Calls Try.prog 19 #[.agg #[.int .i64 K, .int .i64 Z, .slice A n c]] w fun e w' => e = .returned (.bool (rightI K Z es)) ∧ Below w.heap.size w w' := by
  obtain ⟨hn, hn63⟩ := hE.len
  obtain ⟨R, hR⟩ : ∃ R, R = rightI K Z es := ⟨_, rfl⟩
  rw [← hR]
  have HF := Lib.hid (fun s i W => rfits_any s i W)
  have HN := Lib.hid hn
  clear hn
  have HE := Lib.hid hE
  clear hE
  by_cases hk1 : K = 1
  · subst hk1
    by_cases hz0 : 0 ≤ Z
    rotate_left
    · have HR := Lib.hid (hR.trans (right1_00 hz0))
      have dz : decide (0 ≤ Z) = false := decide_eq_false hz0
      clear hR hz0
      go_enter Try.func19, Try.ntmps19
      go_wp2_with fail
      go_ret
      exact ⟨by rw [HR.out]; rfl, (Below.refl _ _).alloc (Nat.le_refl _) _⟩
    have dz : decide (0 ≤ Z) = true := decide_eq_true hz0
    by_cases hz1 : Z ≤ 768
    rotate_left
    · have HR := Lib.hid (hR.trans (right1_01 hz1))
      have dz1 : decide (Z ≤ 768) = false := decide_eq_false hz1
      clear hR hz1 hz0
      go_enter Try.func19, Try.ntmps19
      go_wp2_with fail
      go_ret
      exact ⟨by rw [HR.out]; rfl, (Below.refl _ _).alloc (Nat.le_refl _) _⟩
    have HR := Lib.hid (hR.trans (right1_1 hz0 hz1))
    have dz1 : decide (Z ≤ 768) = true := decide_eq_true hz1
    clear hR hz1 hz0
    rcases n with _ | m
    · have HR2 : Hid (R = true) := Lib.hid (by rw [HR.out, ← HN.out]; rfl)
      clear HR
      go_enter Try.func19, Try.ntmps19
      go_wp2_with fail
      go_ret
      exact ⟨by rw [HR2.out]; rfl, (Below.refl _ _).alloc (Nat.le_refl _) _⟩
    · have HR2 : Hid (R = false) := Lib.hid (by rw [HR.out, ← HN.out]; exact decide_eq_false (by omega))
      have hm : (((m + 1 : Nat) : Int) == 0) = false := beq_eq_false_iff_ne.2 (by omega)
      clear HR
      go_enter Try.func19, Try.ntmps19
      go_wp2_with fail
      go_ret
      exact ⟨by rw [HR2.out]; rfl, (Below.refl _ _).alloc (Nat.le_refl _) _⟩
  by_cases hk2 : K = 2
  rotate_left
  · have HR := Lib.hid (hR.trans (right_other hk1 hk2))
    have d1 : (K == 1) = false := beq_eq_false_iff_ne.2 hk1
    have d2 : (K != 2) = true := bne_iff_ne.2 hk2
    clear hR hk1 hk2
    go_enter Try.func19, Try.ntmps19
    go_wp2_with fail
    go_ret
    exact ⟨by rw [HR.out]; rfl, (Below.refl _ _).alloc (Nat.le_refl _) _⟩
  subst hk2
  clear hk1
  have HR := Lib.hid (hR.trans right2)
  by_cases hz : Z = 0
  rotate_left
  · have dz : (Z != 0) = true := bne_iff_ne.2 hz
    have HR2 : Hid (R = false) := Lib.hid (by rw [HR.out, decide_eq_false hz]; rfl)
    clear HR hz hR
    go_enter Try.func19, Try.ntmps19
    go_wp2_with fail
    go_ret
    exact ⟨by rw [HR2.out]; rfl, (Below.refl _ _).alloc (Nat.le_refl _) _⟩
  have dz : (Z != 0) = false := by rw [hz]; rfl
  by_cases h8 : 8 < n
  · have HR2 : Hid (R = false) := Lib.hid (by rw [HR.out, ← HN.out, decide_eq_false (Nat.not_le_of_gt h8)]; simp)
    have d8 : decide ((8 : Int) < n) = true := decide_eq_true (by omega)
    clear HR hz hR
    go_enter Try.func19, Try.ntmps19
    go_wp2_with fail
    go_ret
    exact ⟨by rw [HR2.out]; rfl, (Below.refl _ _).alloc (Nat.le_refl _) _⟩
  have d8 : decide ((8 : Int) < n) = false := decide_eq_false (by omega)
  have HR2 : Hid (R = ordB es es.length) := Lib.hid (by rw [HR.out, ← HN.out, decide_eq_true (Nat.le_of_not_lt h8), decide_eq_true hz]; rfl)
  have HRS : Hid (∀ i, i < es.length → okAt es i = false → R = false) := Lib.hid (fun i hi h => hR.trans (right2_stop hi h))
  clear HR hz hR h8
  go_enter Try.func19, Try.ntmps19
  go_wp2_with fail
  go_loopw [3] (fun v3 wr => ∃ i : Nat, i ≤ n ∧ v3 = .int .i64 (i : Int) ∧ ordB es i = true ∧ Bx w (.cells #[.int .i64 2, .int .i64 Z, .slice A n c] 28) wr) (fun v3 _ => n - (intOf v3).toNat)
  case atStart => exact ⟨0, by omega, rfl, rfl, Bx.here _ _⟩
  case round =>
    obtain ⟨i, hi, rfl, hord, hbr⟩ := hrel
    have HO := Lib.hid hord
    clear hord
    have hxc := hbr.cell 2 _ rfl
    by_cases hlt : i < n
    · obtain ⟨a, rfl, hc0, hc1⟩ := (HE.out.below hbr.below).at_ i (by rw [← HN.out]; exact hlt)
      clear hc0 hc1
      obtain ⟨nm0, hnm0⟩ : ∃ x, x = nmA es i := ⟨_, rfl⟩
      obtain ⟨y0, hy0⟩ : ∃ x, x = inA es i := ⟨_, rfl⟩
      have HIE : Hid (i < es.length) := Lib.hid (by rw [← HN.out]; exact hlt)
      have hii : (i : Int) < n := by omega
      have hB0 : rrB w (.cells #[.int .i64 2, .int .i64 Z, .slice (some a) n c] 28) (.slice (some a) n c) es wr.drew := ⟨hbr.drew, (HE.out.below hbr.below).below (Below.refl _ _).drew⟩
      have HS0 := Lib.hid hnm0
      have HY0 := Lib.hid hy0
      obtain ⟨hj1, hj2⟩ := rr_num0 i n hlt
      rcases hfb : fitsB nm0 y0 with _ | _
      · obtain ⟨nm1, y1, b, _⟩ : ∃ (nm1 : List UInt8) (y1 : Int) (b : Bool), True := ⟨[], 0, true, trivial⟩
        have HST : Hid (R = false) := Lib.hid (HRS.out i HIE.out (ck_nofit (by rw [← HS0.out, ← HY0.out]; exact hfb)))
        have HV := Lib.hid hfb
        clear hfb hnm0 hy0
        go_upto_region 8 with fail
        refine wp_region_front 27 [42, 43, 44, 45, 46, 47, 48, 49, 50, 51, 52, 53, 54, 55, 56, 57, 58, 59, 60, 61, 62, 63, 64, 65, 66, 67, 68] 0 #[true, true, true, true, true, true, true, true, true, true, true, true, true, true, true, true, true, true, true, true, true, true, true, true, true, true, true] (rrB w (.cells #[.int .i64 2, .int .i64 Z, .slice (some a) n c] 28) (.slice (some a) n c) es) (rrFA (w.heap.size) a i n c nm0 nm1 y0) yesP (by kernel_rfl) (by kernel_rfl) (by kernel_rfl) (by kernel_rfl) (by kernel_rfl) (fun _ _ hb h => h.below hb) (@rrFA_below (w.heap.size) a i n c nm0 nm1 y0) hB0 ?_ ?_
        · intro q hq s w9 hs hB hd
          have s1 : s 1 = .pointer (some ⟨w.heap.size, 0, none⟩) := hs 1 (by decide)
          have s3 : s 3 = .int .i64 (i : Int) := hs 3 (by decide)
          obtain ⟨a2, ha2, hc0, hc1⟩ := hB.2.at_ i HIE.out
          cases ha2
          rw [← HS0.out] at hc0
          rw [← HY0.out] at hc1
          obtain rfl | rfl | rfl | rfl | rfl | rfl | rfl | rfl | rfl | rfl | rfl | rfl | rfl | rfl | rfl | rfl | rfl | rfl | rfl | rfl | rfl | rfl | rfl | rfl | rfl | rfl | rfl : q = 0 ∨ q = 1 ∨ q = 2 ∨ q = 3 ∨ q = 4 ∨ q = 5 ∨ q = 6 ∨ q = 7 ∨ q = 8 ∨ q = 9 ∨ q = 10 ∨ q = 11 ∨ q = 12 ∨ q = 13 ∨ q = 14 ∨ q = 15 ∨ q = 16 ∨ q = 17 ∨ q = 18 ∨ q = 19 ∨ q = 20 ∨ q = 21 ∨ q = 22 ∨ q = 23 ∨ q = 24 ∨ q = 25 ∨ q = 26 := rri_cases q hq
          · refine stepG_plain (by rfl) (stepS_run (v := .pointer (some ⟨w.heap.size, 2, none⟩)) ?_ ⟨Below.refl _ _, rfl, fun j _ _ u _ => ⟨trivial, trivial⟩⟩)
            simp [execOp, evS, s1, Result.andThen, go_sem]
          · have h0 : s 42 = .pointer (some ⟨w.heap.size, 2, none⟩) := hd 0 (by decide +kernel)
            refine stepG_plain (by rfl) (stepS_run (v := .slice (some a) n c) ?_ ⟨Below.refl _ _, rfl, fun j _ _ u _ => ⟨trivial, trivial⟩⟩)
            simp [execOp, evS, h0, hB.1.cell 2 _ rfl, Result.andThen, go_sem]
          · exact stepG_plain (by rfl) (stepS_move _ rfl ⟨Below.refl _ _, s3, fun j _ _ u _ => ⟨trivial, trivial⟩⟩)
          · have h1 : s 43 = .slice (some a) n c := hd 1 (by decide +kernel)
            have h2 : s 44 = .int .i64 (i : Int) := hd 2 (by decide +kernel)
            refine stepG_plain (by rfl) (stepS_run (v := .pointer (some (a.add (i * 2)))) ?_ ⟨Below.refl _ _, rfl, fun j _ _ u _ => ⟨trivial, trivial⟩⟩)
            simp [execOp, evS, h1, h2, hj1, hj2, hlt, Result.andThen, go_sem]
          · have h3 : s 45 = .pointer (some (a.add (i * 2))) := hd 3 (by decide +kernel)
            refine stepG_plain (by rfl) (stepS_run (v := .agg #[.string (str nm0), .int .i64 y0]) ?_ ⟨Below.refl _ _, rfl, fun j _ _ u _ => ⟨trivial, trivial⟩⟩)
            simp [execOp, evS, h3, hc0, hc1, Result.andThen, go_sem]
          · have h4 : s 46 = .agg #[.string (str nm0), .int .i64 y0] := hd 4 (by decide +kernel)
            refine stepG_plain (by rfl) ?_
            refine stepS_call rfl Try.func38 (by kernel_rfl) (by kernel_rfl) #[.agg #[.string (str nm0), .int .i64 y0]] (by simp [evS, h4]) ?_
            refine (HF.out nm0 y0 w9).mono ?_
            rintro e w10 ⟨rfl, hb⟩
            exact ⟨_, rfl, hb, by show _ = _; rw [HV.out], fun j _ _ u _ => ⟨trivial, trivial⟩⟩
          · have h5 : s 47 = .bool false := hd 5 (by decide +kernel)
            refine stepG_plain (by rfl) (stepS_run (v := .bool true) ?_ ⟨Below.refl _ _, rfl, fun j _ _ u _ => ⟨trivial, trivial⟩⟩)
            simp [execOp, evS, h5, Result.andThen, go_sem]
          · have h6 : s 48 = .bool true := hd 6 (by decide +kernel)
            exact stepG_plain (by rfl) (stepS_move _ rfl ⟨Below.refl _ _, h6, fun j _ _ u _ => ⟨trivial, trivial⟩⟩)
          · have h7 : s 49 = .bool true := hd 7 (by decide +kernel)
            exact stepG_not (b := false) (g := 7) (by rfl) h7 ⟨Below.refl _ _, rfl, fun j _ _ u _ => ⟨trivial, trivial⟩⟩
          · have h7 : s 49 = .bool true := hd 7 (by decide +kernel)
            exact stepG_not (b := false) (g := 7) (by rfl) h7 ⟨Below.refl _ _, rfl, fun j _ _ u _ => ⟨trivial, trivial⟩⟩
          · have h7 : s 49 = .bool true := hd 7 (by decide +kernel)
            exact stepG_not (b := false) (g := 7) (by rfl) h7 ⟨Below.refl _ _, rfl, fun j _ _ u _ => ⟨trivial, trivial⟩⟩
          · have h10 : s 52 = undef := hd 10 (by decide +kernel)
            exact stepG_undef (b := true) (g := 10) (by rfl) h10 ⟨Below.refl _ _, rfl, fun j _ _ u _ => ⟨trivial, trivial⟩⟩
          · have h10 : s 52 = undef := hd 10 (by decide +kernel)
            exact stepG_undef (b := true) (g := 10) (by rfl) h10 ⟨Below.refl _ _, rfl, fun j _ _ u _ => ⟨trivial, trivial⟩⟩
          · have h10 : s 52 = undef := hd 10 (by decide +kernel)
            exact stepG_undef (b := true) (g := 10) (by rfl) h10 ⟨Below.refl _ _, rfl, fun j _ _ u _ => ⟨trivial, trivial⟩⟩
          · have h10 : s 52 = undef := hd 10 (by decide +kernel)
            exact stepG_undef (b := true) (g := 10) (by rfl) h10 ⟨Below.refl _ _, rfl, fun j _ _ u _ => ⟨trivial, trivial⟩⟩
          · have h10 : s 52 = undef := hd 10 (by decide +kernel)
            exact stepG_undef (b := true) (g := 10) (by rfl) h10 ⟨Below.refl _ _, rfl, fun j _ _ u _ => ⟨trivial, trivial⟩⟩
          · have h10 : s 52 = undef := hd 10 (by decide +kernel)
            exact stepG_undef (b := true) (g := 10) (by rfl) h10 ⟨Below.refl _ _, rfl, fun j _ _ u _ => ⟨trivial, trivial⟩⟩
          · have h10 : s 52 = undef := hd 10 (by decide +kernel)
            exact stepG_undef (b := true) (g := 10) (by rfl) h10 ⟨Below.refl _ _, rfl, fun j _ _ u _ => ⟨trivial, trivial⟩⟩
          · have h10 : s 52 = undef := hd 10 (by decide +kernel)
            exact stepG_undef (b := true) (g := 10) (by rfl) h10 ⟨Below.refl _ _, rfl, fun j _ _ u _ => ⟨trivial, trivial⟩⟩
          · have h10 : s 52 = undef := hd 10 (by decide +kernel)
            exact stepG_undef (b := true) (g := 10) (by rfl) h10 ⟨Below.refl _ _, rfl, fun j _ _ u _ => ⟨trivial, trivial⟩⟩
          · have h10 : s 52 = undef := hd 10 (by decide +kernel)
            exact stepG_undef (b := true) (g := 10) (by rfl) h10 ⟨Below.refl _ _, rfl, fun j _ _ u _ => ⟨trivial, trivial⟩⟩
          · have h10 : s 52 = undef := hd 10 (by decide +kernel)
            exact stepG_undef (b := true) (g := 10) (by rfl) h10 ⟨Below.refl _ _, rfl, fun j _ _ u _ => ⟨trivial, trivial⟩⟩
          · have h10 : s 52 = undef := hd 10 (by decide +kernel)
            exact stepG_undef (b := true) (g := 10) (by rfl) h10 ⟨Below.refl _ _, rfl, fun j _ _ u _ => ⟨trivial, trivial⟩⟩
          · have h10 : s 52 = undef := hd 10 (by decide +kernel)
            exact stepG_undef (b := true) (g := 10) (by rfl) h10 ⟨Below.refl _ _, rfl, fun j _ _ u _ => ⟨trivial, trivial⟩⟩
          · have h10 : s 52 = undef := hd 10 (by decide +kernel)
            exact stepG_undef (b := true) (g := 10) (by rfl) h10 ⟨Below.refl _ _, rfl, fun j _ _ u _ => ⟨trivial, trivial⟩⟩
          · have h7 : s 49 = .bool true := hd 7 (by decide +kernel)
            exact stepG_not (b := false) (g := 7) (by rfl) h7 ⟨Below.refl _ _, rfl, fun j _ _ u _ => ⟨trivial, trivial⟩⟩
          · have h7 : s 49 = .bool true := hd 7 (by decide +kernel)
            have h25 : s 67 = undef := hd 25 (by decide +kernel)
            refine stepG_plain (by rfl) (stepS_run (v := .bool true) ?_ ⟨Below.refl _ _, rfl, fun j _ _ u _ => ⟨trivial, trivial⟩⟩)
            simp [execOp, evS, h7, h25, Result.andThen, go_sem]
        · intro s w9 hB hd _
          have h26 : s 68 = .bool true := hd 26 (by decide)
          refine wpAny_end (by kernel_rfl) ?_
          obtain ⟨hBx, _⟩ := hB
          simp only [setAll, List.foldl_cons, List.foldl_nil, List.getElem_toArray, List.getElem_cons_succ, List.getElem_cons_zero, Act.put, List.setIfInBounds_toArray, List.set_cons_zero, List.set_cons_succ, h26]
          clear hd h26 hB0
          go_wp2_with fail
          go_ret
          exact ⟨by rw [HST.out]; rfl, hBx.below⟩
      have HV := Lib.hid hfb
      clear hfb
      by_cases hi0 : i = 0
      · obtain ⟨nm1, y1, b, _⟩ : ∃ (nm1 : List UInt8) (y1 : Int) (b : Bool), True := ⟨[], 0, true, trivial⟩
        have HST : Hid (ordB es (i + 1) = true) := Lib.hid (by rw [ordB_step, HO.out, hi0]; show (true && fitsB (nmA es 0) (inA es 0)) = true; rw [← hi0, ← HS0.out, ← HY0.out, HV.out]; rfl)
        have hI0 : i = 0 := hi0
        clear hi0 hnm0 hy0
        go_upto_region 8 with fail
        refine wp_region_front 27 [42, 43, 44, 45, 46, 47, 48, 49, 50, 51, 52, 53, 54, 55, 56, 57, 58, 59, 60, 61, 62, 63, 64, 65, 66, 67, 68] 0 #[true, true, true, true, true, true, true, true, true, true, true, true, true, true, true, true, true, true, true, true, true, true, true, true, true, true, true] (rrB w (.cells #[.int .i64 2, .int .i64 Z, .slice (some a) n c] 28) (.slice (some a) n c) es) (rrFB (w.heap.size) a i n c nm0 nm1 y0) yesP (by kernel_rfl) (by kernel_rfl) (by kernel_rfl) (by kernel_rfl) (by kernel_rfl) (fun _ _ hb h => h.below hb) (@rrFB_below (w.heap.size) a i n c nm0 nm1 y0) hB0 ?_ ?_
        · intro q hq s w9 hs hB hd
          have s1 : s 1 = .pointer (some ⟨w.heap.size, 0, none⟩) := hs 1 (by decide)
          have s3 : s 3 = .int .i64 (i : Int) := hs 3 (by decide)
          obtain ⟨a2, ha2, hc0, hc1⟩ := hB.2.at_ i HIE.out
          cases ha2
          rw [← HS0.out] at hc0
          rw [← HY0.out] at hc1
          obtain rfl | rfl | rfl | rfl | rfl | rfl | rfl | rfl | rfl | rfl | rfl | rfl | rfl | rfl | rfl | rfl | rfl | rfl | rfl | rfl | rfl | rfl | rfl | rfl | rfl | rfl | rfl : q = 0 ∨ q = 1 ∨ q = 2 ∨ q = 3 ∨ q = 4 ∨ q = 5 ∨ q = 6 ∨ q = 7 ∨ q = 8 ∨ q = 9 ∨ q = 10 ∨ q = 11 ∨ q = 12 ∨ q = 13 ∨ q = 14 ∨ q = 15 ∨ q = 16 ∨ q = 17 ∨ q = 18 ∨ q = 19 ∨ q = 20 ∨ q = 21 ∨ q = 22 ∨ q = 23 ∨ q = 24 ∨ q = 25 ∨ q = 26 := rri_cases q hq
          · refine stepG_plain (by rfl) (stepS_run (v := .pointer (some ⟨w.heap.size, 2, none⟩)) ?_ ⟨Below.refl _ _, rfl, fun j _ _ u _ => ⟨trivial, trivial⟩⟩)
            simp [execOp, evS, s1, Result.andThen, go_sem]
          · have h0 : s 42 = .pointer (some ⟨w.heap.size, 2, none⟩) := hd 0 (by decide +kernel)
            refine stepG_plain (by rfl) (stepS_run (v := .slice (some a) n c) ?_ ⟨Below.refl _ _, rfl, fun j _ _ u _ => ⟨trivial, trivial⟩⟩)
            simp [execOp, evS, h0, hB.1.cell 2 _ rfl, Result.andThen, go_sem]
          · exact stepG_plain (by rfl) (stepS_move _ rfl ⟨Below.refl _ _, s3, fun j _ _ u _ => ⟨trivial, trivial⟩⟩)
          · have h1 : s 43 = .slice (some a) n c := hd 1 (by decide +kernel)
            have h2 : s 44 = .int .i64 (i : Int) := hd 2 (by decide +kernel)
            refine stepG_plain (by rfl) (stepS_run (v := .pointer (some (a.add (i * 2)))) ?_ ⟨Below.refl _ _, rfl, fun j _ _ u _ => ⟨trivial, trivial⟩⟩)
            simp [execOp, evS, h1, h2, hj1, hj2, hlt, Result.andThen, go_sem]
          · have h3 : s 45 = .pointer (some (a.add (i * 2))) := hd 3 (by decide +kernel)
            refine stepG_plain (by rfl) (stepS_run (v := .agg #[.string (str nm0), .int .i64 y0]) ?_ ⟨Below.refl _ _, rfl, fun j _ _ u _ => ⟨trivial, trivial⟩⟩)
            simp [execOp, evS, h3, hc0, hc1, Result.andThen, go_sem]
          · have h4 : s 46 = .agg #[.string (str nm0), .int .i64 y0] := hd 4 (by decide +kernel)
            refine stepG_plain (by rfl) ?_
            refine stepS_call rfl Try.func38 (by kernel_rfl) (by kernel_rfl) #[.agg #[.string (str nm0), .int .i64 y0]] (by simp [evS, h4]) ?_
            refine (HF.out nm0 y0 w9).mono ?_
            rintro e w10 ⟨rfl, hb⟩
            exact ⟨_, rfl, hb, by show _ = _; rw [HV.out], fun j _ _ u _ => ⟨trivial, trivial⟩⟩
          · have h5 : s 47 = .bool true := hd 5 (by decide +kernel)
            refine stepG_plain (by rfl) (stepS_run (v := .bool false) ?_ ⟨Below.refl _ _, rfl, fun j _ _ u _ => ⟨trivial, trivial⟩⟩)
            simp [execOp, evS, h5, Result.andThen, go_sem]
          · have h6 : s 48 = .bool false := hd 6 (by decide +kernel)
            exact stepG_plain (by rfl) (stepS_move _ rfl ⟨Below.refl _ _, h6, fun j _ _ u _ => ⟨trivial, trivial⟩⟩)
          · have h7 : s 49 = .bool false := hd 7 (by decide +kernel)
            exact stepG_struck (b := false) (g := 7) (by rfl) h7 (stepS_move _ rfl ⟨Below.refl _ _, s3, fun j _ _ u _ => ⟨trivial, trivial⟩⟩)
          · have h7 : s 49 = .bool false := hd 7 (by decide +kernel)
            have h8 : s 50 = .int .i64 (i : Int) := hd 8 (by decide +kernel)
            refine stepG_struck (b := false) (g := 7) (by rfl) h7 (stepS_run (v := .bool false) ?_ ⟨Below.refl _ _, rfl, fun j _ _ u _ => ⟨trivial, trivial⟩⟩)
            simp [execOp, evS, h8, hI0, Result.andThen, go_sem]
          · have h7 : s 49 = .bool false := hd 7 (by decide +kernel)
            have h9 : s 51 = .bool false := hd 9 (by decide +kernel)
            exact stepG_struck (b := false) (g := 7) (by rfl) h7 (stepS_move _ rfl ⟨Below.refl _ _, h9, fun j _ _ u _ => ⟨trivial, trivial⟩⟩)
          · have h10 : s 52 = .bool false := hd 10 (by decide +kernel)
            exact stepG_not (b := true) (g := 10) (by rfl) h10 ⟨Below.refl _ _, rfl, fun j _ _ u _ => ⟨trivial, trivial⟩⟩
          · have h10 : s 52 = .bool false := hd 10 (by decide +kernel)
            exact stepG_not (b := true) (g := 10) (by rfl) h10 ⟨Below.refl _ _, rfl, fun j _ _ u _ => ⟨trivial, trivial⟩⟩
          · have h10 : s 52 = .bool false := hd 10 (by decide +kernel)
            exact stepG_not (b := true) (g := 10) (by rfl) h10 ⟨Below.refl _ _, rfl, fun j _ _ u _ => ⟨trivial, trivial⟩⟩
          · have h10 : s 52 = .bool false := hd 10 (by decide +kernel)
            exact stepG_not (b := true) (g := 10) (by rfl) h10 ⟨Below.refl _ _, rfl, fun j _ _ u _ => ⟨trivial, trivial⟩⟩
          · have h10 : s 52 = .bool false := hd 10 (by decide +kernel)
            exact stepG_not (b := true) (g := 10) (by rfl) h10 ⟨Below.refl _ _, rfl, fun j _ _ u _ => ⟨trivial, trivial⟩⟩
          · have h10 : s 52 = .bool false := hd 10 (by decide +kernel)
            exact stepG_not (b := true) (g := 10) (by rfl) h10 ⟨Below.refl _ _, rfl, fun j _ _ u _ => ⟨trivial, trivial⟩⟩
          · have h10 : s 52 = .bool false := hd 10 (by decide +kernel)
            exact stepG_not (b := true) (g := 10) (by rfl) h10 ⟨Below.refl _ _, rfl, fun j _ _ u _ => ⟨trivial, trivial⟩⟩
          · have h10 : s 52 = .bool false := hd 10 (by decide +kernel)
            exact stepG_not (b := true) (g := 10) (by rfl) h10 ⟨Below.refl _ _, rfl, fun j _ _ u _ => ⟨trivial, trivial⟩⟩
          · have h10 : s 52 = .bool false := hd 10 (by decide +kernel)
            exact stepG_not (b := true) (g := 10) (by rfl) h10 ⟨Below.refl _ _, rfl, fun j _ _ u _ => ⟨trivial, trivial⟩⟩
          · have h10 : s 52 = .bool false := hd 10 (by decide +kernel)
            exact stepG_not (b := true) (g := 10) (by rfl) h10 ⟨Below.refl _ _, rfl, fun j _ _ u _ => ⟨trivial, trivial⟩⟩
          · have h10 : s 52 = .bool false := hd 10 (by decide +kernel)
            exact stepG_not (b := true) (g := 10) (by rfl) h10 ⟨Below.refl _ _, rfl, fun j _ _ u _ => ⟨trivial, trivial⟩⟩
          · have h10 : s 52 = .bool false := hd 10 (by decide +kernel)
            exact stepG_not (b := true) (g := 10) (by rfl) h10 ⟨Below.refl _ _, rfl, fun j _ _ u _ => ⟨trivial, trivial⟩⟩
          · have h10 : s 52 = .bool false := hd 10 (by decide +kernel)
            exact stepG_not (b := true) (g := 10) (by rfl) h10 ⟨Below.refl _ _, rfl, fun j _ _ u _ => ⟨trivial, trivial⟩⟩
          · have h10 : s 52 = .bool false := hd 10 (by decide +kernel)
            exact stepG_not (b := true) (g := 10) (by rfl) h10 ⟨Below.refl _ _, rfl, fun j _ _ u _ => ⟨trivial, trivial⟩⟩
          · have h7 : s 49 = .bool false := hd 7 (by decide +kernel)
            have h10 : s 52 = .bool false := hd 10 (by decide +kernel)
            have h24 : s 66 = undef := hd 24 (by decide +kernel)
            refine stepG_struck (b := false) (g := 7) (by rfl) h7 (stepS_run (v := .bool false) ?_ ⟨Below.refl _ _, rfl, fun j _ _ u _ => ⟨trivial, trivial⟩⟩)
            simp [execOp, evS, h10, h24, Result.andThen, go_sem]
          · have h7 : s 49 = .bool false := hd 7 (by decide +kernel)
            have h25 : s 67 = .bool false := hd 25 (by decide +kernel)
            refine stepG_plain (by rfl) (stepS_run (v := .bool false) ?_ ⟨Below.refl _ _, rfl, fun j _ _ u _ => ⟨trivial, trivial⟩⟩)
            simp [execOp, evS, h7, h25, Result.andThen, go_sem]
        · intro s w9 hB hd _
          have h26 : s 68 = .bool false := hd 26 (by decide)
          refine wpAny_end (by kernel_rfl) ?_
          obtain ⟨hBx, _⟩ := hB
          simp only [setAll, List.foldl_cons, List.foldl_nil, List.getElem_toArray, List.getElem_cons_succ, List.getElem_cons_zero, Act.put, List.setIfInBounds_toArray, List.set_cons_zero, List.set_cons_succ, h26]
          clear hd h26 hB0
          go_wp2_with fail
          go_roundw
          case rel => exact ⟨i + 1, by omega, by go_num, HST.out, hBx⟩
          case measure => simp [intOf]; omega
      obtain ⟨nm1, hs1⟩ : ∃ x, x = nmA es (i - 1) := ⟨_, rfl⟩
      obtain ⟨y1, hy1⟩ : ∃ x, x = inA es (i - 1) := ⟨_, rfl⟩
      have hCI : okAt es i = Op.bytesLess nm1 nm0 := by rw [ck_succ hi0, ← HS0.out, ← HY0.out, HV.out, ← hs1, cmp_neg]; rfl
      have HS1 := Lib.hid hs1
      have HY1 := Lib.hid hy1
      have hI0 : 0 < i := Nat.pos_of_ne_zero hi0
      obtain ⟨hi1, hi2, hi3, hi4, hW1, hW2⟩ := ck_nums i n (Nat.pos_of_ne_zero hi0) hlt hn63
      rcases hbl : Op.bytesLess nm1 nm0 with _ | _
      · obtain ⟨b, hb⟩ : ∃ b, b = true := ⟨_, rfl⟩
        have HST : Hid (R = false) := Lib.hid (HRS.out i HIE.out (by rw [hCI, hbl]))
        have hCB : (!(Op.bytesLess nm1 nm0)) = true := by rw [hbl]; rfl
        clear hi0 hs1 hy1 hCI hnm0 hy0
        subst hb
        go_upto_region 8 with fail
        refine wp_region_front 27 [42, 43, 44, 45, 46, 47, 48, 49, 50, 51, 52, 53, 54, 55, 56, 57, 58, 59, 60, 61, 62, 63, 64, 65, 66, 67, 68] 0 #[true, true, true, true, true, true, true, true, true, true, true, true, true, true, true, true, true, true, true, true, true, true, true, true, true, true, true] (rrB w (.cells #[.int .i64 2, .int .i64 Z, .slice (some a) n c] 28) (.slice (some a) n c) es) (rrFC (w.heap.size) a i n c nm0 nm1 y0) yesP (by kernel_rfl) (by kernel_rfl) (by kernel_rfl) (by kernel_rfl) (by kernel_rfl) (fun _ _ hb h => h.below hb) (@rrFC_below (w.heap.size) a i n c nm0 nm1 y0) hB0 ?_ ?_
        · intro q hq s w9 hs hB hd
          have s1 : s 1 = .pointer (some ⟨w.heap.size, 0, none⟩) := hs 1 (by decide)
          have s3 : s 3 = .int .i64 (i : Int) := hs 3 (by decide)
          obtain ⟨a2, ha2, hc0, hc1⟩ := hB.2.at_ i HIE.out
          cases ha2
          rw [← HS0.out] at hc0
          rw [← HY0.out] at hc1
          obtain ⟨a1, ha1, hp0, hp1⟩ := hB.2.at_ (i - 1) (Nat.lt_of_le_of_lt (Nat.sub_le _ _) HIE.out)
          cases ha1
          rw [← HS1.out] at hp0
          obtain rfl | rfl | rfl | rfl | rfl | rfl | rfl | rfl | rfl | rfl | rfl | rfl | rfl | rfl | rfl | rfl | rfl | rfl | rfl | rfl | rfl | rfl | rfl | rfl | rfl | rfl | rfl : q = 0 ∨ q = 1 ∨ q = 2 ∨ q = 3 ∨ q = 4 ∨ q = 5 ∨ q = 6 ∨ q = 7 ∨ q = 8 ∨ q = 9 ∨ q = 10 ∨ q = 11 ∨ q = 12 ∨ q = 13 ∨ q = 14 ∨ q = 15 ∨ q = 16 ∨ q = 17 ∨ q = 18 ∨ q = 19 ∨ q = 20 ∨ q = 21 ∨ q = 22 ∨ q = 23 ∨ q = 24 ∨ q = 25 ∨ q = 26 := rri_cases q hq
          · refine stepG_plain (by rfl) (stepS_run (v := .pointer (some ⟨w.heap.size, 2, none⟩)) ?_ ⟨Below.refl _ _, rfl, fun j _ _ u _ => ⟨trivial, trivial⟩⟩)
            simp [execOp, evS, s1, Result.andThen, go_sem]
          · have h0 : s 42 = .pointer (some ⟨w.heap.size, 2, none⟩) := hd 0 (by decide +kernel)
            refine stepG_plain (by rfl) (stepS_run (v := .slice (some a) n c) ?_ ⟨Below.refl _ _, rfl, fun j _ _ u _ => ⟨trivial, trivial⟩⟩)
            simp [execOp, evS, h0, hB.1.cell 2 _ rfl, Result.andThen, go_sem]
          · exact stepG_plain (by rfl) (stepS_move _ rfl ⟨Below.refl _ _, s3, fun j _ _ u _ => ⟨trivial, trivial⟩⟩)
          · have h1 : s 43 = .slice (some a) n c := hd 1 (by decide +kernel)
            have h2 : s 44 = .int .i64 (i : Int) := hd 2 (by decide +kernel)
            refine stepG_plain (by rfl) (stepS_run (v := .pointer (some (a.add (i * 2)))) ?_ ⟨Below.refl _ _, rfl, fun j _ _ u _ => ⟨trivial, trivial⟩⟩)
            simp [execOp, evS, h1, h2, hj1, hj2, hlt, Result.andThen, go_sem]
          · have h3 : s 45 = .pointer (some (a.add (i * 2))) := hd 3 (by decide +kernel)
            refine stepG_plain (by rfl) (stepS_run (v := .agg #[.string (str nm0), .int .i64 y0]) ?_ ⟨Below.refl _ _, rfl, fun j _ _ u _ => ⟨trivial, trivial⟩⟩)
            simp [execOp, evS, h3, hc0, hc1, Result.andThen, go_sem]
          · have h4 : s 46 = .agg #[.string (str nm0), .int .i64 y0] := hd 4 (by decide +kernel)
            refine stepG_plain (by rfl) ?_
            refine stepS_call rfl Try.func38 (by kernel_rfl) (by kernel_rfl) #[.agg #[.string (str nm0), .int .i64 y0]] (by simp [evS, h4]) ?_
            refine (HF.out nm0 y0 w9).mono ?_
            rintro e w10 ⟨rfl, hb⟩
            exact ⟨_, rfl, hb, by show _ = _; rw [HV.out], fun j _ _ u _ => ⟨trivial, trivial⟩⟩
          · have h5 : s 47 = .bool true := hd 5 (by decide +kernel)
            refine stepG_plain (by rfl) (stepS_run (v := .bool false) ?_ ⟨Below.refl _ _, rfl, fun j _ _ u _ => ⟨trivial, trivial⟩⟩)
            simp [execOp, evS, h5, Result.andThen, go_sem]
          · have h6 : s 48 = .bool false := hd 6 (by decide +kernel)
            exact stepG_plain (by rfl) (stepS_move _ rfl ⟨Below.refl _ _, h6, fun j _ _ u _ => ⟨trivial, trivial⟩⟩)
          · have h7 : s 49 = .bool false := hd 7 (by decide +kernel)
            exact stepG_struck (b := false) (g := 7) (by rfl) h7 (stepS_move _ rfl ⟨Below.refl _ _, s3, fun j _ _ u _ => ⟨trivial, trivial⟩⟩)
          · have h7 : s 49 = .bool false := hd 7 (by decide +kernel)
            have h8 : s 50 = .int .i64 (i : Int) := hd 8 (by decide +kernel)
            refine stepG_struck (b := false) (g := 7) (by rfl) h7 (stepS_run (v := .bool true) ?_ ⟨Below.refl _ _, rfl, fun j _ _ u _ => ⟨trivial, trivial⟩⟩)
            simp [execOp, evS, h8, hI0, Result.andThen, go_sem]
          · have h7 : s 49 = .bool false := hd 7 (by decide +kernel)
            have h9 : s 51 = .bool true := hd 9 (by decide +kernel)
            exact stepG_struck (b := false) (g := 7) (by rfl) h7 (stepS_move _ rfl ⟨Below.refl _ _, h9, fun j _ _ u _ => ⟨trivial, trivial⟩⟩)
          · have h10 : s 52 = .bool true := hd 10 (by decide +kernel)
            refine stepG_struck (b := true) (g := 10) (by rfl) h10 (stepS_run (v := .pointer (some ⟨w.heap.size, 2, none⟩)) ?_ ⟨Below.refl _ _, rfl, fun j _ _ u _ => ⟨trivial, trivial⟩⟩)
            simp [execOp, evS, s1, Result.andThen, go_sem]
          · have h10 : s 52 = .bool true := hd 10 (by decide +kernel)
            have h11 : s 53 = .pointer (some ⟨w.heap.size, 2, none⟩) := hd 11 (by decide +kernel)
            refine stepG_struck (b := true) (g := 10) (by rfl) h10 (stepS_run (v := .slice (some a) n c) ?_ ⟨Below.refl _ _, rfl, fun j _ _ u _ => ⟨trivial, trivial⟩⟩)
            simp [execOp, evS, h11, hB.1.cell 2 _ rfl, Result.andThen, go_sem]
          · have h10 : s 52 = .bool true := hd 10 (by decide +kernel)
            exact stepG_struck (b := true) (g := 10) (by rfl) h10 (stepS_move _ rfl ⟨Below.refl _ _, s3, fun j _ _ u _ => ⟨trivial, trivial⟩⟩)
          · have h10 : s 52 = .bool true := hd 10 (by decide +kernel)
            have h13 : s 55 = .int .i64 (i : Int) := hd 13 (by decide +kernel)
            refine stepG_struck (b := true) (g := 10) (by rfl) h10 (stepS_run (v := .int .i64 ((i - 1 : Nat) : Int)) ?_ ⟨Below.refl _ _, rfl, fun j _ _ u _ => ⟨trivial, trivial⟩⟩)
            simp [execOp, evS, h13, hW1, hW2, Result.andThen, go_sem]
          · have h10 : s 52 = .bool true := hd 10 (by decide +kernel)
            have h12 : s 54 = .slice (some a) n c := hd 12 (by decide +kernel)
            have h14 : s 56 = .int .i64 ((i - 1 : Nat) : Int) := hd 14 (by decide +kernel)
            refine stepG_struck (b := true) (g := 10) (by rfl) h10 (stepS_run (v := .pointer (some (a.add ((i - 1) * 2)))) ?_ ⟨Below.refl _ _, rfl, fun j _ _ u _ => ⟨trivial, trivial⟩⟩)
            simp [execOp, evS, h12, h14, hi1, hi2, hi3, hi4, Result.andThen, go_sem]
          · have h10 : s 52 = .bool true := hd 10 (by decide +kernel)
            have h15 : s 57 = .pointer (some (a.add ((i - 1) * 2))) := hd 15 (by decide +kernel)
            refine stepG_struck (b := true) (g := 10) (by rfl) h10 (stepS_run (v := .pointer (some (a.add ((i - 1) * 2)))) ?_ ⟨Below.refl _ _, rfl, fun j _ _ u _ => ⟨trivial, trivial⟩⟩)
            simp [execOp, evS, h15, Result.andThen, go_sem]
          · have h10 : s 52 = .bool true := hd 10 (by decide +kernel)
            have h16 : s 58 = .pointer (some (a.add ((i - 1) * 2))) := hd 16 (by decide +kernel)
            refine stepG_struck (b := true) (g := 10) (by rfl) h10 (stepS_run (v := .string (str nm1)) ?_ ⟨Below.refl _ _, rfl, fun j _ _ u _ => ⟨trivial, trivial⟩⟩)
            simp [execOp, evS, h16, hp0, Result.andThen, go_sem]
          · have h10 : s 52 = .bool true := hd 10 (by decide +kernel)
            refine stepG_struck (b := true) (g := 10) (by rfl) h10 (stepS_run (v := .pointer (some ⟨w.heap.size, 2, none⟩)) ?_ ⟨Below.refl _ _, rfl, fun j _ _ u _ => ⟨trivial, trivial⟩⟩)
            simp [execOp, evS, s1, Result.andThen, go_sem]
          · have h10 : s 52 = .bool true := hd 10 (by decide +kernel)
            have h18 : s 60 = .pointer (some ⟨w.heap.size, 2, none⟩) := hd 18 (by decide +kernel)
            refine stepG_struck (b := true) (g := 10) (by rfl) h10 (stepS_run (v := .slice (some a) n c) ?_ ⟨Below.refl _ _, rfl, fun j _ _ u _ => ⟨trivial, trivial⟩⟩)
            simp [execOp, evS, h18, hB.1.cell 2 _ rfl, Result.andThen, go_sem]
          · have h10 : s 52 = .bool true := hd 10 (by decide +kernel)
            exact stepG_struck (b := true) (g := 10) (by rfl) h10 (stepS_move _ rfl ⟨Below.refl _ _, s3, fun j _ _ u _ => ⟨trivial, trivial⟩⟩)
          · have h10 : s 52 = .bool true := hd 10 (by decide +kernel)
            have h19 : s 61 = .slice (some a) n c := hd 19 (by decide +kernel)
            have h20 : s 62 = .int .i64 (i : Int) := hd 20 (by decide +kernel)
            refine stepG_struck (b := true) (g := 10) (by rfl) h10 (stepS_run (v := .pointer (some (a.add (i * 2)))) ?_ ⟨Below.refl _ _, rfl, fun j _ _ u _ => ⟨trivial, trivial⟩⟩)
            simp [execOp, evS, h19, h20, hj1, hj2, hlt, Result.andThen, go_sem]
          · have h10 : s 52 = .bool true := hd 10 (by decide +kernel)
            have h21 : s 63 = .pointer (some (a.add (i * 2))) := hd 21 (by decide +kernel)
            refine stepG_struck (b := true) (g := 10) (by rfl) h10 (stepS_run (v := .pointer (some (a.add (i * 2)))) ?_ ⟨Below.refl _ _, rfl, fun j _ _ u _ => ⟨trivial, trivial⟩⟩)
            simp [execOp, evS, h21, Result.andThen, go_sem]
          · have h10 : s 52 = .bool true := hd 10 (by decide +kernel)
            have h22 : s 64 = .pointer (some (a.add (i * 2))) := hd 22 (by decide +kernel)
            refine stepG_struck (b := true) (g := 10) (by rfl) h10 (stepS_run (v := .string (str nm0)) ?_ ⟨Below.refl _ _, rfl, fun j _ _ u _ => ⟨trivial, trivial⟩⟩)
            simp [execOp, evS, h22, hc0, Result.andThen, go_sem]
          · have h10 : s 52 = .bool true := hd 10 (by decide +kernel)
            have h17 : s 59 = .string (str nm1) := hd 17 (by decide +kernel)
            have h23 : s 65 = .string (str nm0) := hd 23 (by decide +kernel)
            refine stepG_struck (b := true) (g := 10) (by rfl) h10 (stepS_run (v := .bool true) ?_ ⟨Below.refl _ _, rfl, fun j _ _ u _ => ⟨trivial, trivial⟩⟩)
            simp [execOp, evS, h17, h23, hCB, Result.andThen, go_sem]
          · have h7 : s 49 = .bool false := hd 7 (by decide +kernel)
            have h10 : s 52 = .bool true := hd 10 (by decide +kernel)
            have h24 : s 66 = .bool true := hd 24 (by decide +kernel)
            refine stepG_struck (b := false) (g := 7) (by rfl) h7 (stepS_run (v := .bool true) ?_ ⟨Below.refl _ _, rfl, fun j _ _ u _ => ⟨trivial, trivial⟩⟩)
            simp [execOp, evS, h10, h24, Result.andThen, go_sem]
          · have h7 : s 49 = .bool false := hd 7 (by decide +kernel)
            have h25 : s 67 = .bool true := hd 25 (by decide +kernel)
            refine stepG_plain (by rfl) (stepS_run (v := .bool true) ?_ ⟨Below.refl _ _, rfl, fun j _ _ u _ => ⟨trivial, trivial⟩⟩)
            simp [execOp, evS, h7, h25, Result.andThen, go_sem]
        · intro s w9 hB hd _
          have h26 : s 68 = .bool true := hd 26 (by decide)
          refine wpAny_end (by kernel_rfl) ?_
          obtain ⟨hBx, _⟩ := hB
          simp only [setAll, List.foldl_cons, List.foldl_nil, List.getElem_toArray, List.getElem_cons_succ, List.getElem_cons_zero, Act.put, List.setIfInBounds_toArray, List.set_cons_zero, List.set_cons_succ, h26]
          clear hd h26 hB0
          go_wp2_with fail
          go_ret
          exact ⟨by rw [HST.out]; rfl, hBx.below⟩
      · obtain ⟨b, hb⟩ : ∃ b, b = false := ⟨_, rfl⟩
        have HST : Hid (ordB es (i + 1) = true) := Lib.hid (by rw [ordB_step, HO.out, hCI, hbl]; rfl)
        have hCB : (!(Op.bytesLess nm1 nm0)) = false := by rw [hbl]; rfl
        clear hi0 hs1 hy1 hCI hnm0 hy0
        subst hb
        go_upto_region 8 with fail
        refine wp_region_front 27 [42, 43, 44, 45, 46, 47, 48, 49, 50, 51, 52, 53, 54, 55, 56, 57, 58, 59, 60, 61, 62, 63, 64, 65, 66, 67, 68] 0 #[true, true, true, true, true, true, true, true, true, true, true, true, true, true, true, true, true, true, true, true, true, true, true, true, true, true, true] (rrB w (.cells #[.int .i64 2, .int .i64 Z, .slice (some a) n c] 28) (.slice (some a) n c) es) (rrFD (w.heap.size) a i n c nm0 nm1 y0) yesP (by kernel_rfl) (by kernel_rfl) (by kernel_rfl) (by kernel_rfl) (by kernel_rfl) (fun _ _ hb h => h.below hb) (@rrFD_below (w.heap.size) a i n c nm0 nm1 y0) hB0 ?_ ?_
        · intro q hq s w9 hs hB hd
          have s1 : s 1 = .pointer (some ⟨w.heap.size, 0, none⟩) := hs 1 (by decide)
          have s3 : s 3 = .int .i64 (i : Int) := hs 3 (by decide)
          obtain ⟨a2, ha2, hc0, hc1⟩ := hB.2.at_ i HIE.out
          cases ha2
          rw [← HS0.out] at hc0
          rw [← HY0.out] at hc1
          obtain ⟨a1, ha1, hp0, hp1⟩ := hB.2.at_ (i - 1) (Nat.lt_of_le_of_lt (Nat.sub_le _ _) HIE.out)
          cases ha1
          rw [← HS1.out] at hp0
          obtain rfl | rfl | rfl | rfl | rfl | rfl | rfl | rfl | rfl | rfl | rfl | rfl | rfl | rfl | rfl | rfl | rfl | rfl | rfl | rfl | rfl | rfl | rfl | rfl | rfl | rfl | rfl : q = 0 ∨ q = 1 ∨ q = 2 ∨ q = 3 ∨ q = 4 ∨ q = 5 ∨ q = 6 ∨ q = 7 ∨ q = 8 ∨ q = 9 ∨ q = 10 ∨ q = 11 ∨ q = 12 ∨ q = 13 ∨ q = 14 ∨ q = 15 ∨ q = 16 ∨ q = 17 ∨ q = 18 ∨ q = 19 ∨ q = 20 ∨ q = 21 ∨ q = 22 ∨ q = 23 ∨ q = 24 ∨ q = 25 ∨ q = 26 := rri_cases q hq
          · refine stepG_plain (by rfl) (stepS_run (v := .pointer (some ⟨w.heap.size, 2, none⟩)) ?_ ⟨Below.refl _ _, rfl, fun j _ _ u _ => ⟨trivial, trivial⟩⟩)
            simp [execOp, evS, s1, Result.andThen, go_sem]
          · have h0 : s 42 = .pointer (some ⟨w.heap.size, 2, none⟩) := hd 0 (by decide +kernel)
            refine stepG_plain (by rfl) (stepS_run (v := .slice (some a) n c) ?_ ⟨Below.refl _ _, rfl, fun j _ _ u _ => ⟨trivial, trivial⟩⟩)
            simp [execOp, evS, h0, hB.1.cell 2 _ rfl, Result.andThen, go_sem]
          · exact stepG_plain (by rfl) (stepS_move _ rfl ⟨Below.refl _ _, s3, fun j _ _ u _ => ⟨trivial, trivial⟩⟩)
          · have h1 : s 43 = .slice (some a) n c := hd 1 (by decide +kernel)
            have h2 : s 44 = .int .i64 (i : Int) := hd 2 (by decide +kernel)
            refine stepG_plain (by rfl) (stepS_run (v := .pointer (some (a.add (i * 2)))) ?_ ⟨Below.refl _ _, rfl, fun j _ _ u _ => ⟨trivial, trivial⟩⟩)
            simp [execOp, evS, h1, h2, hj1, hj2, hlt, Result.andThen, go_sem]
          · have h3 : s 45 = .pointer (some (a.add (i * 2))) := hd 3 (by decide +kernel)
            refine stepG_plain (by rfl) (stepS_run (v := .agg #[.string (str nm0), .int .i64 y0]) ?_ ⟨Below.refl _ _, rfl, fun j _ _ u _ => ⟨trivial, trivial⟩⟩)
            simp [execOp, evS, h3, hc0, hc1, Result.andThen, go_sem]
          · have h4 : s 46 = .agg #[.string (str nm0), .int .i64 y0] := hd 4 (by decide +kernel)
            refine stepG_plain (by rfl) ?_
            refine stepS_call rfl Try.func38 (by kernel_rfl) (by kernel_rfl) #[.agg #[.string (str nm0), .int .i64 y0]] (by simp [evS, h4]) ?_
            refine (HF.out nm0 y0 w9).mono ?_
            rintro e w10 ⟨rfl, hb⟩
            exact ⟨_, rfl, hb, by show _ = _; rw [HV.out], fun j _ _ u _ => ⟨trivial, trivial⟩⟩
          · have h5 : s 47 = .bool true := hd 5 (by decide +kernel)
            refine stepG_plain (by rfl) (stepS_run (v := .bool false) ?_ ⟨Below.refl _ _, rfl, fun j _ _ u _ => ⟨trivial, trivial⟩⟩)
            simp [execOp, evS, h5, Result.andThen, go_sem]
          · have h6 : s 48 = .bool false := hd 6 (by decide +kernel)
            exact stepG_plain (by rfl) (stepS_move _ rfl ⟨Below.refl _ _, h6, fun j _ _ u _ => ⟨trivial, trivial⟩⟩)
          · have h7 : s 49 = .bool false := hd 7 (by decide +kernel)
            exact stepG_struck (b := false) (g := 7) (by rfl) h7 (stepS_move _ rfl ⟨Below.refl _ _, s3, fun j _ _ u _ => ⟨trivial, trivial⟩⟩)
          · have h7 : s 49 = .bool false := hd 7 (by decide +kernel)
            have h8 : s 50 = .int .i64 (i : Int) := hd 8 (by decide +kernel)
            refine stepG_struck (b := false) (g := 7) (by rfl) h7 (stepS_run (v := .bool true) ?_ ⟨Below.refl _ _, rfl, fun j _ _ u _ => ⟨trivial, trivial⟩⟩)
            simp [execOp, evS, h8, hI0, Result.andThen, go_sem]
          · have h7 : s 49 = .bool false := hd 7 (by decide +kernel)
            have h9 : s 51 = .bool true := hd 9 (by decide +kernel)
            exact stepG_struck (b := false) (g := 7) (by rfl) h7 (stepS_move _ rfl ⟨Below.refl _ _, h9, fun j _ _ u _ => ⟨trivial, trivial⟩⟩)
          · have h10 : s 52 = .bool true := hd 10 (by decide +kernel)
            refine stepG_struck (b := true) (g := 10) (by rfl) h10 (stepS_run (v := .pointer (some ⟨w.heap.size, 2, none⟩)) ?_ ⟨Below.refl _ _, rfl, fun j _ _ u _ => ⟨trivial, trivial⟩⟩)
            simp [execOp, evS, s1, Result.andThen, go_sem]
          · have h10 : s 52 = .bool true := hd 10 (by decide +kernel)
            have h11 : s 53 = .pointer (some ⟨w.heap.size, 2, none⟩) := hd 11 (by decide +kernel)
            refine stepG_struck (b := true) (g := 10) (by rfl) h10 (stepS_run (v := .slice (some a) n c) ?_ ⟨Below.refl _ _, rfl, fun j _ _ u _ => ⟨trivial, trivial⟩⟩)
            simp [execOp, evS, h11, hB.1.cell 2 _ rfl, Result.andThen, go_sem]
          · have h10 : s 52 = .bool true := hd 10 (by decide +kernel)
            exact stepG_struck (b := true) (g := 10) (by rfl) h10 (stepS_move _ rfl ⟨Below.refl _ _, s3, fun j _ _ u _ => ⟨trivial, trivial⟩⟩)
          · have h10 : s 52 = .bool true := hd 10 (by decide +kernel)
            have h13 : s 55 = .int .i64 (i : Int) := hd 13 (by decide +kernel)
            refine stepG_struck (b := true) (g := 10) (by rfl) h10 (stepS_run (v := .int .i64 ((i - 1 : Nat) : Int)) ?_ ⟨Below.refl _ _, rfl, fun j _ _ u _ => ⟨trivial, trivial⟩⟩)
            simp [execOp, evS, h13, hW1, hW2, Result.andThen, go_sem]
          · have h10 : s 52 = .bool true := hd 10 (by decide +kernel)
            have h12 : s 54 = .slice (some a) n c := hd 12 (by decide +kernel)
            have h14 : s 56 = .int .i64 ((i - 1 : Nat) : Int) := hd 14 (by decide +kernel)
            refine stepG_struck (b := true) (g := 10) (by rfl) h10 (stepS_run (v := .pointer (some (a.add ((i - 1) * 2)))) ?_ ⟨Below.refl _ _, rfl, fun j _ _ u _ => ⟨trivial, trivial⟩⟩)
            simp [execOp, evS, h12, h14, hi1, hi2, hi3, hi4, Result.andThen, go_sem]
          · have h10 : s 52 = .bool true := hd 10 (by decide +kernel)
            have h15 : s 57 = .pointer (some (a.add ((i - 1) * 2))) := hd 15 (by decide +kernel)
            refine stepG_struck (b := true) (g := 10) (by rfl) h10 (stepS_run (v := .pointer (some (a.add ((i - 1) * 2)))) ?_ ⟨Below.refl _ _, rfl, fun j _ _ u _ => ⟨trivial, trivial⟩⟩)
            simp [execOp, evS, h15, Result.andThen, go_sem]
          · have h10 : s 52 = .bool true := hd 10 (by decide +kernel)
            have h16 : s 58 = .pointer (some (a.add ((i - 1) * 2))) := hd 16 (by decide +kernel)
            refine stepG_struck (b := true) (g := 10) (by rfl) h10 (stepS_run (v := .string (str nm1)) ?_ ⟨Below.refl _ _, rfl, fun j _ _ u _ => ⟨trivial, trivial⟩⟩)
            simp [execOp, evS, h16, hp0, Result.andThen, go_sem]
          · have h10 : s 52 = .bool true := hd 10 (by decide +kernel)
            refine stepG_struck (b := true) (g := 10) (by rfl) h10 (stepS_run (v := .pointer (some ⟨w.heap.size, 2, none⟩)) ?_ ⟨Below.refl _ _, rfl, fun j _ _ u _ => ⟨trivial, trivial⟩⟩)
            simp [execOp, evS, s1, Result.andThen, go_sem]
          · have h10 : s 52 = .bool true := hd 10 (by decide +kernel)
            have h18 : s 60 = .pointer (some ⟨w.heap.size, 2, none⟩) := hd 18 (by decide +kernel)
            refine stepG_struck (b := true) (g := 10) (by rfl) h10 (stepS_run (v := .slice (some a) n c) ?_ ⟨Below.refl _ _, rfl, fun j _ _ u _ => ⟨trivial, trivial⟩⟩)
            simp [execOp, evS, h18, hB.1.cell 2 _ rfl, Result.andThen, go_sem]
          · have h10 : s 52 = .bool true := hd 10 (by decide +kernel)
            exact stepG_struck (b := true) (g := 10) (by rfl) h10 (stepS_move _ rfl ⟨Below.refl _ _, s3, fun j _ _ u _ => ⟨trivial, trivial⟩⟩)
          · have h10 : s 52 = .bool true := hd 10 (by decide +kernel)
            have h19 : s 61 = .slice (some a) n c := hd 19 (by decide +kernel)
            have h20 : s 62 = .int .i64 (i : Int) := hd 20 (by decide +kernel)
            refine stepG_struck (b := true) (g := 10) (by rfl) h10 (stepS_run (v := .pointer (some (a.add (i * 2)))) ?_ ⟨Below.refl _ _, rfl, fun j _ _ u _ => ⟨trivial, trivial⟩⟩)
            simp [execOp, evS, h19, h20, hj1, hj2, hlt, Result.andThen, go_sem]
          · have h10 : s 52 = .bool true := hd 10 (by decide +kernel)
            have h21 : s 63 = .pointer (some (a.add (i * 2))) := hd 21 (by decide +kernel)
            refine stepG_struck (b := true) (g := 10) (by rfl) h10 (stepS_run (v := .pointer (some (a.add (i * 2)))) ?_ ⟨Below.refl _ _, rfl, fun j _ _ u _ => ⟨trivial, trivial⟩⟩)
            simp [execOp, evS, h21, Result.andThen, go_sem]
          · have h10 : s 52 = .bool true := hd 10 (by decide +kernel)
            have h22 : s 64 = .pointer (some (a.add (i * 2))) := hd 22 (by decide +kernel)
            refine stepG_struck (b := true) (g := 10) (by rfl) h10 (stepS_run (v := .string (str nm0)) ?_ ⟨Below.refl _ _, rfl, fun j _ _ u _ => ⟨trivial, trivial⟩⟩)
            simp [execOp, evS, h22, hc0, Result.andThen, go_sem]
          · have h10 : s 52 = .bool true := hd 10 (by decide +kernel)
            have h17 : s 59 = .string (str nm1) := hd 17 (by decide +kernel)
            have h23 : s 65 = .string (str nm0) := hd 23 (by decide +kernel)
            refine stepG_struck (b := true) (g := 10) (by rfl) h10 (stepS_run (v := .bool false) ?_ ⟨Below.refl _ _, rfl, fun j _ _ u _ => ⟨trivial, trivial⟩⟩)
            simp [execOp, evS, h17, h23, hCB, Result.andThen, go_sem]
          · have h7 : s 49 = .bool false := hd 7 (by decide +kernel)
            have h10 : s 52 = .bool true := hd 10 (by decide +kernel)
            have h24 : s 66 = .bool false := hd 24 (by decide +kernel)
            refine stepG_struck (b := false) (g := 7) (by rfl) h7 (stepS_run (v := .bool false) ?_ ⟨Below.refl _ _, rfl, fun j _ _ u _ => ⟨trivial, trivial⟩⟩)
            simp [execOp, evS, h10, h24, Result.andThen, go_sem]
          · have h7 : s 49 = .bool false := hd 7 (by decide +kernel)
            have h25 : s 67 = .bool false := hd 25 (by decide +kernel)
            refine stepG_plain (by rfl) (stepS_run (v := .bool false) ?_ ⟨Below.refl _ _, rfl, fun j _ _ u _ => ⟨trivial, trivial⟩⟩)
            simp [execOp, evS, h7, h25, Result.andThen, go_sem]
        · intro s w9 hB hd _
          have h26 : s 68 = .bool false := hd 26 (by decide)
          refine wpAny_end (by kernel_rfl) ?_
          obtain ⟨hBx, _⟩ := hB
          simp only [setAll, List.foldl_cons, List.foldl_nil, List.getElem_toArray, List.getElem_cons_succ, List.getElem_cons_zero, Act.put, List.setIfInBounds_toArray, List.set_cons_zero, List.set_cons_succ, h26]
          clear hd h26 hB0
          go_wp2_with fail
          go_roundw
          case rel => exact ⟨i + 1, by omega, by go_num, HST.out, hBx⟩
          case measure => simp [intOf]; omega
    · have hin : i = n := by omega
      subst hin
      have HST : Hid (R = true) := Lib.hid (by rw [HR2.out, ← HN.out]; exact HO.out)
      go_wp2_with fail
      go_ret
      exact ⟨by rw [HST.out]; rfl, hbr.below⟩
end Go.Proofs.YteghldapcfkekaaK

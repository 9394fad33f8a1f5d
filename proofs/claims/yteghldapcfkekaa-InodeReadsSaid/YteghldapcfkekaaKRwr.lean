import Derived.Test.YteghldapcfkekaaKRri
import Derived.Test.YteghldapcfkekaaKApp
import Derived.Deep.DeepCutAuto
namespace Go.Proofs.YteghldapcfkekaaK
open Go.RowKit
set_option linter.unusedSimpArgs false
set_option linter.unusedVariables false
/-! The reference's Write. -/
def rwB (w : World) (o : Obj) (v : Value) (es : List (List UInt8 × Int)) (b : Nat) (u : Value) (m : Nat) (out : List UInt8) (W : World) : Prop := Bx w o W ∧ Es W v es ∧ W.ownsRow b 5 1 u m (out.map encB)
theorem rwB.below {w : World} {o : Obj} {v u : Value} {es : List (List UInt8 × Int)} {b m : Nat} {out : List UInt8} {W W' : World} (h : rwB w o v es b u m out W) (hb : Below W.heap.size W W') : rwB w o v es b u m out W' := ⟨h.1.go hb, h.2.1.below hb, own_below h.2.2 hb⟩
theorem Bx.size {w wr : World} {o : Obj} (h : Bx w o wr) : w.heap.size + 1 ≤ wr.heap.size := by
  have h' : Below (w.alloc o).heap.size (w.alloc o) wr := h
  have := h'.size
  simpa using this
theorem Bx.grown {w wr w2 : World} {o : Obj} (h : Bx w o wr) {e : TypeId} {size n : Nat} {v : Value} {xs : List Value} (ho : wr.ownsRow (w.heap.size + 1) e size v n xs) (hg : wr.grownBy w2 v.ownBlock) : Bx w o w2 := by
  unfold Bx at *
  have hs : (w.alloc o).heap.size = w.heap.size + 1 := by simp
  rw [hs] at h ⊢
  exact below_grown h ho hg (by have := h.size; rw [hs] at this; exact this)
theorem rw_set (y : Int) (L : Nat) (h1 : 1 ≤ y) (h2 : y ≤ 24) (h3 : L ≤ 12) : IntKind.u8.wrap y = y ∧ IntKind.u8.wrap (L : Int) = L ∧ IntKind.i64.wrap (L : Int) = L ∧ wrap64 (L : Int) = L ∧ (numsB 1 [y, (L : Int)]).map encB = [.int .u8 y, .int .u8 (L : Int)] := by
  refine ⟨?_, ?_, ?_, ?_, nums1_cells y (L : Int) (by omega) (by omega) (by omega) (by omega)⟩
  · rw [IntKind.wrap_u8]; omega
  · rw [IntKind.wrap_u8]; omega
  · rw [IntKind.wrap_i64]; omega
  · unfold wrap64; omega
theorem rw_file (N : Nat) (h : N ≤ 768) : numB 1 1 ++ numB 2 N = [1, UInt8.ofNat (N % 256), UInt8.ofNat (N / 256 % 256)] := by
  show [UInt8.ofNat (1 % 256)] ++ [UInt8.ofNat (N % 256), UInt8.ofNat (N / 256 % 256)] = _
  rfl
theorem rw_cells (N : Nat) (h : N ≤ 768) : [Value.int .u8 1, .int .u8 ((N : Int) % 256), .int .u8 (wrap64 ((N : Int) / 256) % 256)] = (numB 1 1 ++ numB 2 N).map encB := by
  have hw : wrap64 ((N : Int) / 256) % 256 = (N : Int) / 256 := by unfold wrap64; omega
  rw [hw]
  rw [rw_file N h]
  show _ = [encB 1, encB (UInt8.ofNat (N % 256)), encB (UInt8.ofNat (N / 256 % 256))]
  have h1 : encB (UInt8.ofNat (N % 256)) = .int .u8 ((N : Int) % 256) := by
    unfold encB; congr 1; simp
  have h2 : encB (UInt8.ofNat (N / 256 % 256)) = .int .u8 ((N : Int) / 256) := by
    unfold encB; congr 1; simp; omega
  rw [h1, h2]
  rfl
theorem rwr_cases (i : Nat) (h : i < 17) : i = 0 ∨ i = 1 ∨ i = 2 ∨ i = 3 ∨ i = 4 ∨ i = 5 ∨ i = 6 ∨ i = 7 ∨ i = 8 ∨ i = 9 ∨ i = 10 ∨ i = 11 ∨ i = 12 ∨ i = 13 ∨ i = 14 ∨ i = 15 ∨ i = 16 := by omega
theorem rw_max {m L : Nat} {s : List UInt8} (h : m ≤ 200) (h' : L ≤ 12) (hz : (str s).size = L) : m + 2 + (str s).size ≤ maxLen := by rw [hz]; unfold maxLen; omega
theorem rw_max2 {m L : Nat} {s : List UInt8} (h : m ≤ 200) (h' : L ≤ 12) (hz : (str s).size = L) : m + 2 + (str s).size ≤ 140737488355328 := by rw [hz]; omega
def rwF (xb : Nat) (a : Addr) (j n c L : Nat) (nm0 : List UInt8) (y0 : Int) (A6 : Option Addr) (m c6 : Nat) : Nat → Value → World → Prop
  | 0, v, _ => v = .slice A6 m c6
  | 1, v, _ => v = .pointer (some ⟨xb, 2, none⟩)
  | 2, v, _ => v = .slice (some a) n c
  | 3, v, _ => v = .int .i64 (j : Int)
  | 4, v, _ => v = .pointer (some (a.add (j * 2)))
  | 5, v, _ => v = .pointer (some ⟨(a.add (j * 2)).block, (a.add (j * 2)).off + 1, none⟩)
  | 6, v, _ => v = .int .i64 y0
  | 7, v, _ => v = .int .u8 y0
  | 8, v, _ => v = .pointer (some ⟨xb, 2, none⟩)
  | 9, v, _ => v = .slice (some a) n c
  | 10, v, _ => v = .int .i64 (j : Int)
  | 11, v, _ => v = .pointer (some (a.add (j * 2)))
  | 12, v, _ => v = .pointer (some (a.add (j * 2)))
  | 13, v, _ => v = .string (str nm0)
  | 14, v, _ => v = .int .i64 (L : Int)
  | 15, v, _ => v = .int .u8 (L : Int)
  | 16, v, w => BsV (numsB 1 [y0, (L : Int)]) v w
  | _, _, _ => False
theorem rwF_below {xb : Nat} {a : Addr} {j n c L : Nat} {nm0 : List UInt8} {y0 : Int} {A6 : Option Addr} {m c6 : Nat} (i : Nat) (v : Value) (w w' : World) (hb : Below w.heap.size w w') (h : rwF xb a j n c L nm0 y0 A6 m c6 i v w) : rwF xb a j n c L nm0 y0 A6 m c6 i v w' := by
  match i with
  | 16 => exact BsV.below h hb
  | 0 | 1 | 2 | 3 | 4 | 5 | 6 | 7 | 8 | 9 | 10 | 11 => exact h
  | 12 | 13 | 14 | 15 => exact h
  | n + 17 => exact h
set_option maxRecDepth 100000 in
set_option maxHeartbeats 8000000 in
theorem rwrite_any (K Z : Int) (A : Option Addr) (n c : Nat) (es : List (List UInt8 × Int)) (w : World) (hE : Es w (.slice A n c) es) :
    Calls Try.prog 13 #[.agg #[.int .i64 K, .int .i64 Z, .slice A n c]] w fun e w' => ∃ v, e = .returned (.tuple #[v, .int .i64 (errI (rightI K Z es))]) ∧ BsV (wrI K Z es) v w' ∧ Below w.heap.size w w' := by
  obtain ⟨hn, hn63⟩ := hE.len
  have HN := Lib.hid hn
  clear hn
  have HE := Lib.hid hE
  clear hE
  have HC0 := fun R (hR : rightI K Z es = R) W A n c h => by have := rri_any K Z A n c es W h; rw [hR] at this; exact this
  rcases hR : rightI K Z es with _ | _
  · have HC := Lib.hid (HC0 _ hR)
    have HW := Lib.hid (wrI_no hR)
    clear hR HC0
    go_enter Try.func13, Try.ntmps13
    go_wp2_with (go_at_call 19; refine (HC.out _ _ _ _ (HE.out.below ((Below.refl _ _).alloc (Nat.le_refl _) _))).mono ?_; rintro e w1 ⟨rfl, hb1⟩)
    go_ret2
    refine ⟨_, rfl, by rw [HW.out]; exact ⟨_, _, _, rfl, Bs.new (bs := []) rfl rfl rfl (by decide)⟩, ?_⟩
    exact ((Bx.here w _).go hb1 |>.alloc _).below
  have HC := Lib.hid (HC0 _ hR)
  clear HC0
  by_cases hk : K = 1
  · subst hk
    obtain ⟨hz0, hz1⟩ := right_file hR
    have HW := Lib.hid (wrI_file hR)
    clear hR
    obtain ⟨N, rfl⟩ := Int.eq_ofNat_of_zero_le hz0
    have hN := Lib.hid (rw_cells N (by omega))
    have hw1 : IntKind.u8.wrap ((N : Int) % 256) = (N : Int) % 256 := by rw [IntKind.wrap_u8]; omega
    have hw2 : IntKind.u8.wrap ((N : Int) / 256) = (N : Int) / 256 := by rw [IntKind.wrap_u8]; omega
    clear hz0 hz1
    go_enter Try.func13, Try.ntmps13
    go_wp2_with (go_at_call 19; refine (HC.out _ _ _ _ (HE.out.below ((Below.refl _ _).alloc (Nat.le_refl _) _))).mono ?_; rintro e w1 ⟨rfl, hb1⟩; have hB1 := Bx.go (Bx.here w (.cells #[.int .i64 1, .int .i64 (N : Int), .slice A n c] 28)) hb1; have hx0 := hB1.cell 0 _ rfl; have hx1 := hB1.cell 1 _ rfl)
    go_ret2
    refine ⟨_, rfl, by rw [HW.out]; exact ⟨_, _, _, rfl, Bs.new rfl hN.out rfl (by decide)⟩, (hB1.alloc _).below⟩
  obtain ⟨hK2, hZ0, hn8, hall⟩ := right_dir hR hk
  have HW := Lib.hid (wrI_dir hR hk)
  have hkb : (K == 1) = false := beq_eq_false_iff_ne.2 hk
  clear hR hk hZ0
  have hn8' : n ≤ 8 := by rw [HN.out]; exact hn8
  have HL := Lib.hid (flatW_le (fun j hj => (hall j hj).1))
  have HA := Lib.hid hall
  have hw0 : IntKind.u8.wrap (n : Int) = n := by rw [IntKind.wrap_u8]; omega
  have HC2 := Lib.hid (nums1_cells 2 (n : Int) (by omega) (by omega) (by omega) (by omega))
  clear hall hn8 hK2
  go_enter Try.func13, Try.ntmps13
  go_wp2_with (go_at_call 19; refine (HC.out _ _ _ _ (HE.out.below ((Below.refl _ _).alloc (Nat.le_refl _) _))).mono ?_; rintro e w1 ⟨rfl, hb1⟩; have hB1 := Bx.go (Bx.here w (.cells #[.int .i64 K, .int .i64 Z, .slice A n c] 28)) hb1; have hx0 := hB1.cell 0 _ rfl; have hx2 := hB1.cell 2 _ rfl)
  have hown := own_litB (w := w1) (e := 5) (base := w.heap.size + 1) (n := 2) #[.int .u8 2, .int .u8 (n : Int)] rfl hB1.size (by decide)
  rw [show (#[Value.int .u8 2, .int .u8 (n : Int)]).toList = (numsB 1 [2, (n : Int)]).map encB from HC2.out.symm] at hown
  have hB2 := hB1.alloc (.cells #[.int .u8 2, .int .u8 (n : Int)] 5)
  go_loopw [4, 5] (fun v4 v5 wr => ∃ (i : Nat) (A6 : Option Addr) (m c6 : Nat), i ≤ n ∧ v4 = .slice A6 m c6 ∧ v5 = .int .i64 (i : Int) ∧ wr.ownsRow (w.heap.size + 1) 5 1 (.slice A6 m c6) m ((numsB 1 [2, (n : Int)] ++ (es.take i).flatMap encW).map encB) ∧ Bx w (.cells #[.int .i64 K, .int .i64 Z, .slice A n c] 28) wr) (fun _ v5 _ => n - (intOf v5).toNat)
  case atStart => exact ⟨0, _, 2, 2, by omega, rfl, rfl, by simpa using hown, hB2⟩
  case round =>
    obtain ⟨i, A6, m, c6, hi, rfl, rfl, hown, hbr⟩ := hrel
    have hxc := hbr.cell 2 _ rfl
    by_cases hlt : i < n
    · have HIE : Hid (i < es.length) := Lib.hid (by rw [← HN.out]; exact hlt)
      obtain ⟨a, rfl, _, _⟩ := (HE.out.below hbr.below).at_ i HIE.out
      have hall := HA.out i HIE.out
      have hlen := HL.out i (by rw [← HN.out]; exact hi)
      have hst := flatW_step (es := es) (k := i) HIE.out
      obtain ⟨out, hout⟩ : ∃ x, x = numsB 1 [2, (n : Int)] ++ (es.take i).flatMap encW := ⟨_, rfl⟩
      have hol : out.length ≤ 200 := by rw [hout, List.length_append, numsB_length]; simp only [List.length_cons, List.length_nil]; omega
      rw [← hout] at hown
      obtain ⟨nm0, hnm0⟩ : ∃ x, x = nmA es i := ⟨_, rfl⟩
      obtain ⟨y0, hy0⟩ : ∃ x, x = inA es i := ⟨_, rfl⟩
      rw [← hnm0] at hst hall
      rw [← hy0] at hst hall
      have HS0 := Lib.hid hnm0
      have HY0 := Lib.hid hy0
      obtain ⟨hl12, hy1, hy24⟩ := hall
      obtain ⟨L, hL⟩ : ∃ x, x = nm0.length := ⟨_, rfl⟩
      have hLz := str_size nm0
      rw [← hL] at hl12 hst hLz
      have HST : Hid (numsB 1 [2, (n : Int)] ++ (es.take (i + 1)).flatMap encW = (out ++ numsB 1 [y0, (L : Int)]) ++ nm0) := Lib.hid (by rw [hst, hout, List.append_assoc, List.append_assoc])
      have HML : Hid (m ≤ 200) := Lib.hid (by have := hown.1; simp at this; omega)
      have hii : (i : Int) < n := by omega
      obtain ⟨hw1, hw2, hw3, hw4, hc3⟩ := rw_set y0 L hy1 hy24 hl12
      have HC3 := Lib.hid hc3
      have HL12 := Lib.hid hl12
      obtain ⟨hj1, hj2⟩ := rr_num0 i n hlt
      clear hc3 hnm0 hy0 hst hlen hol hout hL hy1 hy24 hl12
      have hB0 : rwB w (.cells #[.int .i64 K, .int .i64 Z, .slice (some a) n c] 28) (.slice (some a) n c) es (w.heap.size + 1) (.slice A6 m c6) m out wr.drew := ⟨hbr.drew, (HE.out.below hbr.below).below (Below.refl _ _).drew, own_below hown (Below.refl _ _).drew⟩
      go_upto_region 9 with fail
      refine wp_region_front 17 [34, 35, 36, 37, 38, 39, 40, 41, 42, 43, 44, 45, 46, 47, 48, 49, 50] 2 #[true, true, true, true, true, true, true, true, true, true, true, true, true, true, true, true, true, false, false] (rwB w (.cells #[.int .i64 K, .int .i64 Z, .slice (some a) n c] 28) (.slice (some a) n c) es (w.heap.size + 1) (.slice A6 m c6) m out) (rwF (w.heap.size) a i n c L nm0 y0 A6 m c6) yesP (by kernel_rfl) (by kernel_rfl) (by kernel_rfl) (by kernel_rfl) (by kernel_rfl) (fun _ _ hb h => h.below hb) (@rwF_below (w.heap.size) a i n c L nm0 y0 A6 m c6) hB0 ?_ ?_
      · intro q hq s w9 hs hB hd
        have s1 : s 1 = .pointer (some ⟨w.heap.size, 0, none⟩) := hs 1 (by decide)
        have s4 : s 4 = .slice A6 m c6 := hs 4 (by decide)
        have s5 : s 5 = .int .i64 (i : Int) := hs 5 (by decide)
        obtain ⟨a2, ha2, hc0, hc1⟩ := hB.2.1.at_ i HIE.out
        cases ha2
        rw [← HS0.out] at hc0
        rw [← HY0.out] at hc1
        obtain rfl | rfl | rfl | rfl | rfl | rfl | rfl | rfl | rfl | rfl | rfl | rfl | rfl | rfl | rfl | rfl | rfl : q = 0 ∨ q = 1 ∨ q = 2 ∨ q = 3 ∨ q = 4 ∨ q = 5 ∨ q = 6 ∨ q = 7 ∨ q = 8 ∨ q = 9 ∨ q = 10 ∨ q = 11 ∨ q = 12 ∨ q = 13 ∨ q = 14 ∨ q = 15 ∨ q = 16 := rwr_cases q hq
        · exact stepG_plain (by rfl) (stepS_move _ rfl ⟨Below.refl _ _, s4, fun j _ _ u _ => ⟨trivial, trivial⟩⟩)
        · refine stepG_plain (by rfl) (stepS_run (v := .pointer (some ⟨w.heap.size, 2, none⟩)) ?_ ⟨Below.refl _ _, rfl, fun j _ _ u _ => ⟨trivial, trivial⟩⟩)
          simp [execOp, evS, s1, Result.andThen, go_sem]
        · have h1 : s 35 = .pointer (some ⟨w.heap.size, 2, none⟩) := hd 1 (by decide +kernel)
          refine stepG_plain (by rfl) (stepS_run (v := .slice (some a) n c) ?_ ⟨Below.refl _ _, rfl, fun j _ _ u _ => ⟨trivial, trivial⟩⟩)
          simp [execOp, evS, h1, hB.1.cell 2 _ rfl, Result.andThen, go_sem]
        · exact stepG_plain (by rfl) (stepS_move _ rfl ⟨Below.refl _ _, s5, fun j _ _ u _ => ⟨trivial, trivial⟩⟩)
        · have h2 : s 36 = .slice (some a) n c := hd 2 (by decide +kernel)
          have h3 : s 37 = .int .i64 (i : Int) := hd 3 (by decide +kernel)
          refine stepG_plain (by rfl) (stepS_run (v := .pointer (some (a.add (i * 2)))) ?_ ⟨Below.refl _ _, rfl, fun j _ _ u _ => ⟨trivial, trivial⟩⟩)
          simp [execOp, evS, h2, h3, hj1, hj2, hlt, Result.andThen, go_sem]
        · have h4 : s 38 = .pointer (some (a.add (i * 2))) := hd 4 (by decide +kernel)
          refine stepG_plain (by rfl) (stepS_run (v := .pointer (some ⟨(a.add (i * 2)).block, (a.add (i * 2)).off + 1, none⟩)) ?_ ⟨Below.refl _ _, rfl, fun j _ _ u _ => ⟨trivial, trivial⟩⟩)
          simp [execOp, evS, h4, Result.andThen, go_sem]
        · have h5 : s 39 = .pointer (some ⟨(a.add (i * 2)).block, (a.add (i * 2)).off + 1, none⟩) := hd 5 (by decide +kernel)
          refine stepG_plain (by rfl) (stepS_run (v := .int .i64 y0) ?_ ⟨Below.refl _ _, rfl, fun j _ _ u _ => ⟨trivial, trivial⟩⟩)
          simp [execOp, evS, h5, hc1, Result.andThen, go_sem]
        · have h6 : s 40 = .int .i64 y0 := hd 6 (by decide +kernel)
          refine stepG_plain (by rfl) (stepS_run (v := .int .u8 y0) ?_ ⟨Below.refl _ _, rfl, fun j _ _ u _ => ⟨trivial, trivial⟩⟩)
          simp [execOp, evS, h6, hw1, Result.andThen, go_sem]
        · refine stepG_plain (by rfl) (stepS_run (v := .pointer (some ⟨w.heap.size, 2, none⟩)) ?_ ⟨Below.refl _ _, rfl, fun j _ _ u _ => ⟨trivial, trivial⟩⟩)
          simp [execOp, evS, s1, Result.andThen, go_sem]
        · have h8 : s 42 = .pointer (some ⟨w.heap.size, 2, none⟩) := hd 8 (by decide +kernel)
          refine stepG_plain (by rfl) (stepS_run (v := .slice (some a) n c) ?_ ⟨Below.refl _ _, rfl, fun j _ _ u _ => ⟨trivial, trivial⟩⟩)
          simp [execOp, evS, h8, hB.1.cell 2 _ rfl, Result.andThen, go_sem]
        · exact stepG_plain (by rfl) (stepS_move _ rfl ⟨Below.refl _ _, s5, fun j _ _ u _ => ⟨trivial, trivial⟩⟩)
        · have h9 : s 43 = .slice (some a) n c := hd 9 (by decide +kernel)
          have h10 : s 44 = .int .i64 (i : Int) := hd 10 (by decide +kernel)
          refine stepG_plain (by rfl) (stepS_run (v := .pointer (some (a.add (i * 2)))) ?_ ⟨Below.refl _ _, rfl, fun j _ _ u _ => ⟨trivial, trivial⟩⟩)
          simp [execOp, evS, h9, h10, hj1, hj2, hlt, Result.andThen, go_sem]
        · have h11 : s 45 = .pointer (some (a.add (i * 2))) := hd 11 (by decide +kernel)
          refine stepG_plain (by rfl) (stepS_run (v := .pointer (some (a.add (i * 2)))) ?_ ⟨Below.refl _ _, rfl, fun j _ _ u _ => ⟨trivial, trivial⟩⟩)
          simp [execOp, evS, h11, Result.andThen, go_sem]
        · have h12 : s 46 = .pointer (some (a.add (i * 2))) := hd 12 (by decide +kernel)
          refine stepG_plain (by rfl) (stepS_run (v := .string (str nm0)) ?_ ⟨Below.refl _ _, rfl, fun j _ _ u _ => ⟨trivial, trivial⟩⟩)
          simp [execOp, evS, h12, hc0, Result.andThen, go_sem]
        · have h13 : s 47 = .string (str nm0) := hd 13 (by decide +kernel)
          refine stepG_plain (by rfl) (stepS_run (v := .int .i64 (L : Int)) ?_ ⟨Below.refl _ _, rfl, fun j _ _ u _ => ⟨trivial, trivial⟩⟩)
          simp [execOp, evS, h13, hLz, hw3, hw4, Result.andThen, go_sem]
        · have h14 : s 48 = .int .i64 (L : Int) := hd 14 (by decide +kernel)
          refine stepG_plain (by rfl) (stepS_run (v := .int .u8 (L : Int)) ?_ ⟨Below.refl _ _, rfl, fun j _ _ u _ => ⟨trivial, trivial⟩⟩)
          simp [execOp, evS, h14, hw2, Result.andThen, go_sem]
        · have h7 : s 41 = .int .u8 y0 := hd 7 (by decide +kernel)
          have h15 : s 49 = .int .u8 (L : Int) := hd 15 (by decide +kernel)
          refine stepG_plain (by rfl) ?_
          refine stepS_two rfl Try.underlying30 info_u81 h7 h15 rfl rfl ?_
          exact ⟨(Below.refl _ _).alloc (Nat.le_refl _) _, ⟨_, _, _, rfl, Bs.new rfl HC3.out.symm rfl (by decide)⟩, fun j _ _ u _ => ⟨trivial, trivial⟩⟩
      · intro s w9 hB hd _
        have h0 : s 34 = .slice A6 m c6 := hd 0 (by decide)
        obtain ⟨A9, n9, c9, h16, b16⟩ : BsV (numsB 1 [y0, (L : Int)]) (s 50) w9 := hd 16 (by decide)
        obtain rfl : n9 = 2 := b16.len
        obtain ⟨hBx, hEs, hOw⟩ := hB
        refine wpAny_one 17 _ (by kernel_rfl) (by simp only [List.getElem?_toArray, List.getElem?_cons_succ, List.getElem?_cons_zero]; rfl) (by rfl) ?_
        refine wp_append_op (w.heap.size + 1) rfl _ _ 30 5 (.int .u8 0) 1 1 rfl Try.underlying30 info_u8 rfl (by decide) (by decide) (.slice A6 m c6) m (out.map encB) A9 2 c9 ((numsB 1 [y0, (L : Int)]).map encB) ?_ ?_ hOw b16.at (by simp [numsB_length]) (encB_all _) hBx.size (by have := HML.out; omega) ?_
        · simp [Act.eval, setAll, h0]
        · simp [Act.eval, setAll, h16]
        intro v1 w1 ho1 hg1 ha1
        obtain ⟨A7, c7, rfl, _, _⟩ := own_form ho1
        have hB7 := hBx.grown hOw hg1
        refine wpAny_one 18 _ (by kernel_rfl) (by simp only [List.getElem?_toArray, List.getElem?_cons_succ, List.getElem?_cons_zero]; rfl) (by rfl) ?_
        refine StepS.wp (K := fun v w' => v = .slice A7 (m + 2) c7 ∧ w' = w1) ?_ ?_
        · refine stepS_assign _ rfl ⟨?_, rfl⟩
          simp [evS, setAll, Act.put]
        rintro v w' ⟨rfl, rfl⟩
        refine wpAny_end (by kernel_rfl) ?_
        clear hd h0 h16 hB0 ha1 hg1 hBx hEs hOw b16
        simp only [setAll, List.foldl_cons, List.foldl_nil, List.getElem_toArray, List.getElem_cons_succ, List.getElem_cons_zero, Act.put, List.setIfInBounds_toArray, List.set_cons_zero, List.set_cons_succ]
        have hxc7 := hB7.cell 2 _ rfl
        obtain ⟨a2, ha2, hc0, hc1⟩ := (HE.out.below hB7.below).at_ i HIE.out
        cases ha2
        rw [← HS0.out] at hc0
        clear hc1
        have HO1 := Lib.hid ho1
        clear ho1 hxc
        obtain ⟨iu, hiu, hz3⟩ := Option.map_eq_some_iff.1 info_u8
        simp only [Prod.mk.injEq] at hz3
        obtain ⟨hiz, hi1, hi2⟩ := hz3
        have HIU := Lib.hid hiu
        have HIZ := Lib.hid hiz
        have HI1 := Lib.hid hi1
        have HI2 := Lib.hid hi2
        clear hiu hiz hi1 hi2
        go_wp2_with (at_builtin; refine Lib.wpList_append_own_string _ rfl _ _ 30 9 rfl (w.heap.size + 1) 5 _ Try.underlying30 Try.underlying9 HIU.out HIZ.out HI1.out HI2.out (.slice A7 (m + 2) c7) (m + 2) _ rfl HO1.out (str nm0) rfl (rw_max HML.out HL12.out hLz) (rw_max2 HML.out HL12.out hLz) hB7.size ?_; intro v2 w2 ho2 hg2 _; have hB8 := hB7.grown HO1.out hg2; have HO2 := Lib.hid ho2; have hxc8 := hB8.cell 2 _ rfl; clear ho2 hg2)
        obtain ⟨A8, c8, rfl, _, _⟩ := own_form HO2.out
        go_roundw
        case rel => exact ⟨i + 1, A8, _, c8, by omega, rfl, by go_num, by rw [HST.out]; have := HO2.out; rw [str_cells, ← List.map_append, ← List.map_append] at this; exact this, hB8⟩
        case measure => simp [intOf]; omega
    · have hin : i = n := by omega
      subst hin
      rw [List.take_of_length_le (by rw [← HN.out]; exact Nat.le_refl _)] at hown
      have hbs := (own_bs hown).2
      have HBS := Lib.hid hbs
      clear hbs hown
      go_wp2_with fail
      go_ret2
      refine ⟨_, rfl, ?_, hbr.below⟩
      rw [HW.out, ← HN.out]
      exact ⟨_, _, _, rfl, HBS.out⟩
end Go.Proofs.YteghldapcfkekaaK

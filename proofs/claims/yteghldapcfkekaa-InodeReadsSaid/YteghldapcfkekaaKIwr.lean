import Derived.Test.YteghldapcfkekaaKIwrP
import Derived.Test.YteghldapcfkekaaKPackBk
import Derived.Deep.DeepCutAuto
namespace Go.Proofs.YteghldapcfkekaaK
open Go.RowKit
set_option linter.unusedSimpArgs false
set_option linter.unusedVariables false
/-! inode.Write. -/
def iwB (w wr : World) (o : Obj) (v : Value) (es : List (List UInt8 × Int)) (nm0 : List UInt8) (y0 : Int) (u : Value) (out : List UInt8) (W : World) : Prop := ckB w wr o v es nm0 y0 W ∧ Bs W u out
theorem iwB.below {w wr : World} {o : Obj} {v u : Value} {es : List (List UInt8 × Int)} {nm0 out : List UInt8} {y0 : Int} {W W' : World} (h : iwB w wr o v es nm0 y0 u out W) (hb : Below W.heap.size W W') : iwB w wr o v es nm0 y0 u out W' := ⟨h.1.below hb, h.2.below hb⟩
theorem info_bs1 : (Try.prog.info? 30).map (fun i => (i.zero, i.size)) = some (some (.slice none 0 0), 1) := by kernel_rfl
theorem info_u641 : (Try.prog.info? 57).map (fun i => (i.zero, i.size)) = some (some (.int .u64 0), 1) := by kernel_rfl
theorem iw_cases15 (i : Nat) (h : i < 15) : i = 0 ∨ i = 1 ∨ i = 2 ∨ i = 3 ∨ i = 4 ∨ i = 5 ∨ i = 6 ∨ i = 7 ∨ i = 8 ∨ i = 9 ∨ i = 10 ∨ i = 11 ∨ i = 12 ∨ i = 13 ∨ i = 14 := by omega
theorem iw_cases9 (i : Nat) (h : i < 9) : i = 0 ∨ i = 1 ∨ i = 2 ∨ i = 3 ∨ i = 4 ∨ i = 5 ∨ i = 6 ∨ i = 7 ∨ i = 8 := by omega
def iwF (eb L : Nat) (nm0 out : List UInt8) (y0 : Int) : Nat → Value → World → Prop
  | 0, v, w => BsV out v w
  | 1, v, _ => v = .pointer (some ⟨eb, 1, none⟩)
  | 2, v, _ => v = .int .i64 y0
  | 3, v, _ => v = .int .u64 y0
  | 4, v, _ => v = .pointer (some ⟨eb, 0, none⟩)
  | 5, v, _ => v = .string (str nm0)
  | 6, v, _ => v = .int .i64 (L : Int)
  | 7, v, _ => v = .int .u64 (L : Int)
  | 8, v, w => IsV .u64 [y0, (L : Int)] v w
  | 9, v, w => BsV (numsB 1 [y0, (L : Int)]) v w
  | 10, v, _ => v = .pointer (some ⟨eb, 0, none⟩)
  | 11, v, _ => v = .string (str nm0)
  | 12, v, w => BsV nm0 v w
  | 13, v, w => BssV [out, numsB 1 [y0, (L : Int)], nm0] v w
  | 14, v, w => BsV (out ++ (numsB 1 [y0, (L : Int)] ++ nm0)) v w
  | _, _, _ => False
theorem iwF_below {eb L : Nat} {nm0 out : List UInt8} {y0 : Int} (i : Nat) (v : Value) (w w' : World) (hb : Below w.heap.size w w') (h : iwF eb L nm0 out y0 i v w) : iwF eb L nm0 out y0 i v w' := by
  match i with
  | 0 => exact BsV.below h hb
  | 8 => exact IsV.below h hb
  | 9 => exact BsV.below h hb
  | 12 => exact BsV.below h hb
  | 13 => exact BssV.below h hb
  | 14 => exact BsV.below h hb
  | 1 | 2 | 3 | 4 | 5 | 6 | 7 | 10 | 11 => exact h
  | n + 15 => exact h
def iwG (xb N : Nat) : Nat → Value → World → Prop
  | 0, v, w => BsV (numB 1 1) v w
  | 1, v, _ => v = .pointer (some ⟨xb, 1, none⟩)
  | 2, v, _ => v = .int .i64 (N : Int)
  | 3, v, _ => v = .int .u64 (N : Int)
  | 4, v, w => BsV (numB 2 N) v w
  | 5, v, w => BssV [numB 1 1, numB 2 N] v w
  | 6, v, w => BsV (numB 1 1 ++ numB 2 N) v w
  | 7, v, w => BsV (numB 1 1 ++ numB 2 N) v w
  | 8, v, _ => v = .int .i64 0
  | _, _, _ => False
theorem iwG_below {xb N : Nat} (i : Nat) (v : Value) (w w' : World) (hb : Below w.heap.size w w') (h : iwG xb N i v w) : iwG xb N i v w' := by
  match i with
  | 0 => exact BsV.below h hb
  | 4 => exact BsV.below h hb
  | 5 => exact BssV.below h hb
  | 6 => exact BsV.below h hb
  | 7 => exact BsV.below h hb
  | 1 | 2 | 3 | 8 => exact h
  | n + 9 => exact h
theorem iw_pair (y : Int) (L : Nat) (h1 : 1 ≤ y) (h2 : y ≤ 24) (h3 : L ≤ 12) : ∀ x ∈ [y, (L : Int)], 0 ≤ x ∧ x < 18446744073709551616 := fun x hx => by
  simp only [List.mem_cons, List.not_mem_nil, or_false] at hx
  rcases hx with rfl | rfl <;> omega
theorem iw_lens (out nm0 : List UInt8) (y0 : Int) (L : Nat) (h : out.length ≤ 200) (hL : nm0.length ≤ 12) : Lib.lens [out, numsB 1 [y0, (L : Int)], nm0] ≤ 140737488355328 := by
  rw [lens3, numsB_length]; simp only [List.length_cons, List.length_nil]; omega
theorem iw_flat2 (x : List UInt8) (y : List UInt8) : [x, y].flatten = x ++ y := by simp
theorem iw_flat3 (x y z : List UInt8) : [x, y, z].flatten = x ++ (y ++ z) := by simp
set_option maxRecDepth 100000 in
set_option maxHeartbeats 8000000 in
theorem iwrite_any (K Z : Int) (A : Option Addr) (n c : Nat) (es : List (List UInt8 × Int)) (w : World) (hE : Es w (.slice A n c) es) :
    Calls Try.prog 12 #[.agg #[.int .i64 K, .int .i64 Z, .slice A n c]] w fun e w' => ∃ v, e = .returned (.tuple #[v, .int .i64 (errI (rightI K Z es))]) ∧ BsV (wrI K Z es) v w' ∧ Below w.heap.size w w' := by
  obtain ⟨hn, hn63⟩ := hE.len
  have HN := Lib.hid hn
  clear hn
  have HE := Lib.hid hE
  clear hE
  rcases hR : rightI K Z es with _ | _
  · have HC := Lib.hid (fun A n c W h => check_no hR A n c W h)
    have HW := Lib.hid (wrI_no hR)
    clear hR
    go_enter Try.func12, Try.ntmps12
    go_wp2_with (go_at_call 14; refine (HC.out _ _ _ _ (HE.out.below ((Below.refl _ _).alloc (Nat.le_refl _) _))).mono ?_; rintro e w1 ⟨rfl, hb1⟩)
    go_ret2
    refine ⟨_, rfl, by rw [HW.out]; exact ⟨none, 0, 0, rfl, none, 0, rfl, by simp, by simp, At.nil _ _⟩, ?_⟩
    exact Bx.below (Bx.go (Bx.here w _) hb1)
  have HC := Lib.hid (fun A n c W h => check_ok hR A n c W h)
  by_cases hk : K = 1
  · subst hk
    obtain ⟨hz0, hz1⟩ := right_file hR
    have HW := Lib.hid (wrI_file hR)
    clear hR
    obtain ⟨N, rfl⟩ := Int.eq_ofNat_of_zero_le hz0
    have HN1 := Lib.hid (fun W => num_v 1 1 (by decide) W)
    have HN2 := Lib.hid (fun W => num_v 2 N (by omega) W)
    have HJ := Lib.hid (fun A n c W h => join_v [numB 1 1, numB 2 N] (by simp) (by simp [Lib.lens, numB_length]) A n c W h)
    have hw1 : IntKind.u64.wrap (N : Int) = N := by rw [IntKind.wrap_u64]; omega
    clear hz0 hz1
    go_enter Try.func12, Try.ntmps12
    go_upto_region 5 with (go_at_call 14; refine (HC.out _ _ _ _ (HE.out.below ((Below.refl _ _).alloc (Nat.le_refl _) _))).mono ?_; rintro e w1 ⟨rfl, hb1⟩; have hB1 := (Bx.go (Bx.here w (.cells #[.int .i64 1, .int .i64 (N : Int), .slice A n c] 28)) hb1); have hx0 := hB1.cell 0 _ rfl; have hB0 := hB1.drew)
    refine wp_region_front 9 [16, 17, 18, 19, 20, 21, 22, 2, 3] 0 #[true, true, true, true, true, true, true, true, true] (Bx w (.cells #[.int .i64 1, .int .i64 (N : Int), .slice A n c] 28)) (iwG (w.heap.size) N) yesP (by kernel_rfl) (by kernel_rfl) (by kernel_rfl) (by kernel_rfl) (by kernel_rfl) (fun _ _ hb h => h.go hb) (@iwG_below (w.heap.size) N) hB0 ?_ ?_
    · intro q hq s w9 hs hB hd
      have s1 : s 1 = .pointer (some ⟨w.heap.size, 0, none⟩) := hs 1 (by decide)
      obtain rfl | rfl | rfl | rfl | rfl | rfl | rfl | rfl | rfl : q = 0 ∨ q = 1 ∨ q = 2 ∨ q = 3 ∨ q = 4 ∨ q = 5 ∨ q = 6 ∨ q = 7 ∨ q = 8 := iw_cases9 q hq
      · refine stepG_plain (by rfl) ?_
        refine stepS_call rfl Try.func26 (by kernel_rfl) (by kernel_rfl) #[.int .i64 1, .int .u64 1] (by simp [evS]) ?_
        refine (HN1.out w9).mono ?_
        rintro e w10 ⟨v, rfl, hv, hb⟩
        exact ⟨_, rfl, hb, hv, fun j _ _ u _ => ⟨trivial, trivial⟩⟩
      · refine stepG_plain (by rfl) (stepS_run (v := .pointer (some ⟨w.heap.size, 1, none⟩)) ?_ ⟨Below.refl _ _, rfl, fun j _ _ u _ => ⟨trivial, trivial⟩⟩)
        simp [execOp, evS, s1, Result.andThen, go_sem]
      · have h1 : s 17 = .pointer (some ⟨w.heap.size, 1, none⟩) := hd 1 (by decide +kernel)
        refine stepG_plain (by rfl) (stepS_run (v := .int .i64 (N : Int)) ?_ ⟨Below.refl _ _, rfl, fun j _ _ u _ => ⟨trivial, trivial⟩⟩)
        simp [execOp, evS, h1, hB.cell 1 _ rfl, Result.andThen, go_sem]
      · have h2 : s 18 = .int .i64 (N : Int) := hd 2 (by decide +kernel)
        refine stepG_plain (by rfl) (stepS_run (v := .int .u64 (N : Int)) ?_ ⟨Below.refl _ _, rfl, fun j _ _ u _ => ⟨trivial, trivial⟩⟩)
        simp [execOp, evS, h2, hw1, Result.andThen, go_sem]
      · have h3 : s 19 = .int .u64 (N : Int) := hd 3 (by decide +kernel)
        refine stepG_plain (by rfl) ?_
        refine stepS_call rfl Try.func26 (by kernel_rfl) (by kernel_rfl) #[.int .i64 2, .int .u64 (N : Int)] (by simp [evS, h3]) ?_
        refine (HN2.out w9).mono ?_
        rintro e w10 ⟨v, rfl, hv, hb⟩
        exact ⟨_, rfl, hb, hv, fun j _ _ u _ => ⟨trivial, trivial⟩⟩
      · obtain ⟨A0, n0, c0, h0, b0⟩ : BsV (numB 1 1) (s 16) w9 := hd 0 (by decide +kernel)
        obtain ⟨A4, n4, c4, h4, b4⟩ : BsV (numB 2 N) (s 20) w9 := hd 4 (by decide +kernel)
        refine stepG_plain (by rfl) ?_
        refine stepS_two rfl Try.underlying71 info_bs1 h0 h4 rfl rfl ?_
        exact ⟨(Below.refl _ _).alloc (Nat.le_refl _) _, ⟨_, _, _, rfl, Bss.new2 rfl b0 b4⟩, fun j _ _ u _ => ⟨trivial, trivial⟩⟩
      · have h5 := hd 5 (by decide +kernel)
        refine stepG_plain (by rfl) ?_
        obtain ⟨A9, n9, c9, h9, b9⟩ : BssV [numB 1 1, numB 2 N] (s 21) w9 := h5
        refine stepS_call rfl Try.func25 (by kernel_rfl) (by kernel_rfl) #[.slice A9 n9 c9] (by simp [evS, h9]) ?_
        refine (HJ.out A9 n9 c9 w9 b9).mono ?_
        rintro e w10 ⟨v, rfl, hv, hb⟩
        rw [iw_flat2] at hv
        exact ⟨_, rfl, hb, hv, fun j _ _ u _ => ⟨trivial, trivial⟩⟩
      · obtain ⟨A6, n6, c6, h6, b6⟩ : BsV (numB 1 1 ++ numB 2 N) (s 22) w9 := hd 6 (by decide +kernel)
        refine stepG_plain (by rfl) ?_
        exact stepS_assign _ rfl ⟨Below.refl _ _, ⟨_, _, _, h6, b6⟩, fun j _ _ u _ => ⟨trivial, trivial⟩⟩
      · exact stepG_plain (by rfl) (stepS_assign _ rfl ⟨Below.refl _ _, rfl, fun j _ _ u _ => ⟨trivial, trivial⟩⟩)
    · intro s w9 hB hd _
      obtain ⟨A7, n7, c7, h7, b7⟩ : BsV (numB 1 1 ++ numB 2 N) (s 2) w9 := hd 7 (by decide)
      have h8 : s 3 = .int .i64 0 := hd 8 (by decide)
      refine wpAny_end (by kernel_rfl) ?_
      simp only [setAll, List.foldl_cons, List.foldl_nil, List.getElem_toArray, List.getElem_cons_succ, List.getElem_cons_zero, Act.put, List.setIfInBounds_toArray, List.set_cons_zero, List.set_cons_succ, h7, h8]
      clear hd h7 h8 hB0
      go_wp2_with fail
      go_ret2
      exact ⟨_, rfl, by rw [HW.out]; exact ⟨_, _, _, rfl, b7⟩, hB.below⟩
  obtain ⟨hK2, hZ0, hn8, hall⟩ := right_dir hR hk
  have HW := Lib.hid (wrI_dir hR hk)
  have hkb : (K == 1) = false := beq_eq_false_iff_ne.2 hk
  clear hR hk hZ0
  have hn8' : n ≤ 8 := by rw [HN.out]; exact hn8
  have HL := Lib.hid (flatW_le (fun j hj => (hall j hj).1))
  have HA := Lib.hid hall
  have hw0 : IntKind.u64.wrap (n : Int) = n := by rw [IntKind.wrap_u64]; omega
  have HNN := Lib.hid (fun A' c' W h => nums_v 1 [2, (n : Int)] (fun x hx => by simp at hx; rcases hx with rfl | rfl <;> omega) (by simp) A' 2 c' W h)
  clear hall hn8 hK2
  go_enter Try.func12, Try.ntmps12
  go_wp2_with (first
    | (go_at_call 14; refine (HC.out _ _ _ _ (HE.out.below ((Below.refl _ _).alloc (Nat.le_refl _) _))).mono ?_; rintro e w1 ⟨rfl, hb1⟩; have hB1 := (Bx.go (Bx.here w (.cells #[.int .i64 K, .int .i64 Z, .slice A n c] 28)) hb1); have hx0 := hB1.cell 0 _ rfl; have hxc := hB1.cell 2 _ rfl)
    | (go_at_call 27; refine (HNN.out _ _ _ (Is.new rfl (by rfl) rfl (by decide))).mono ?_; rintro e w2 ⟨v5, rfl, hv5, hb2⟩; have hB2 := (hB1.alloc _).go hb2; have hxc2 := hB2.cell 2 _ rfl))
  obtain ⟨A5, n5, c5, rfl, hs5⟩ := hv5
  go_loopw [5, 32] (fun v5 v32 wr => ∃ (i : Nat) (A5 : Option Addr) (n5 c5 : Nat), i ≤ n ∧ v5 = .slice A5 n5 c5 ∧ v32 = .int .i64 (i : Int) ∧ Bs wr (.slice A5 n5 c5) (numsB 1 [2, (n : Int)] ++ (es.take i).flatMap encW) ∧ Bx w (.cells #[.int .i64 K, .int .i64 Z, .slice A n c] 28) wr) (fun _ v32 _ => n - (intOf v32).toNat)
  case atStart => exact ⟨0, A5, n5, c5, by omega, rfl, rfl, by have := hs5; rw [show wid 1 = 1 from rfl] at this; simpa using this, hB2⟩
  case round =>
    obtain ⟨i, A6, n6, c6, hi, rfl, rfl, hs6, hbr⟩ := hrel
    by_cases hlt : i < n
    · obtain ⟨a, rfl, hc0, hc1⟩ := (HE.out.below hbr.below).at_ i (by rw [← HN.out]; exact hlt)
      have hall := HA.out i (by rw [← HN.out]; exact hlt)
      have hlen := HL.out i (by rw [← HN.out]; exact hi)
      have hst := flatW_step (es := es) (k := i) (by rw [← HN.out]; exact hlt)
      obtain ⟨out, hout⟩ : ∃ x, x = numsB 1 [2, (n : Int)] ++ (es.take i).flatMap encW := ⟨_, rfl⟩
      have hol : out.length ≤ 200 := by rw [hout, List.length_append, numsB_length]; simp only [List.length_cons, List.length_nil]; omega
      rw [← hout] at hs6
      obtain ⟨nm0, hnm0⟩ : ∃ x, x = nmA es i := ⟨_, rfl⟩
      obtain ⟨y0, hy0⟩ : ∃ x, x = inA es i := ⟨_, rfl⟩
      rw [← hnm0] at hc0 hst hall
      rw [← hy0] at hc1 hst hall
      obtain ⟨hl12, hy1, hy24⟩ := hall
      obtain ⟨L, hL⟩ : ∃ x, x = nm0.length := ⟨_, rfl⟩
      have hLz := str_size nm0
      rw [← hL] at hl12 hst hLz
      have HST : Hid (numsB 1 [2, (n : Int)] ++ (es.take (i + 1)).flatMap encW = out ++ (numsB 1 [y0, (L : Int)] ++ nm0)) := Lib.hid (by rw [hst, hout, List.append_assoc])
      have HOL := Lib.hid hol
      have HLL := Lib.hid hL
      have hii : (i : Int) < n := by omega
      have hw1 : IntKind.u64.wrap y0 = y0 := by rw [IntKind.wrap_u64]; omega
      have hw2 : IntKind.u64.wrap (L : Int) = L := by rw [IntKind.wrap_u64]; omega
      have hw3 : IntKind.i64.wrap (L : Int) = L := by rw [IntKind.wrap_i64]; omega
      have hw4 : wrap64 (L : Int) = L := by unfold wrap64; omega
      have hpair := iw_pair y0 L hy1 hy24 hl12
      have HNs := Lib.hid (fun A n c W h => nums_v 1 [y0, (L : Int)] hpair (by simp) A n c W h)
      have hlens := iw_lens out nm0 y0 L hol (by rw [← hL]; exact hl12)
      have HJ := Lib.hid (fun A n c W h => join_v [out, numsB 1 [y0, (L : Int)], nm0] (by simp) hlens A n c W h)
      have HCV := Lib.hid (run_conv_bs nm0 (Nat.le_trans (by rw [← HLL.out]; exact hl12) (by decide)))
      clear hpair hlens hnm0 hy0 hst hlen hol hout hL hy1 hy24 hl12
      go_upto_region 10 with fail
      have hB0 : iwB w wr (.cells #[.int .i64 K, .int .i64 Z, .slice (some a) n c] 28) (.slice (some a) n c) es nm0 y0 (.slice A6 n6 c6) out (wr.alloc (.cells #[.string (str nm0), .int .i64 y0] 46)).drew := ⟨⟨(hbr.alloc _).drew, new_cell_drew _ _ _ 0 _ rfl, new_cell_drew _ _ _ 1 _ rfl, (HE.out.below hbr.below).below ((Below.refl _ _).alloc (Nat.le_refl _) _).drew⟩, hs6.below ((Below.refl _ _).alloc (Nat.le_refl _) _).drew⟩
      refine wp_region_front 15 [36, 37, 38, 39, 40, 41, 42, 43, 44, 45, 46, 47, 48, 49, 50] 1 #[true, true, true, true, true, true, true, true, true, true, true, true, true, true, true, false] (iwB w wr (.cells #[.int .i64 K, .int .i64 Z, .slice (some a) n c] 28) (.slice (some a) n c) es nm0 y0 (.slice A6 n6 c6) out) (iwF (wr.heap.size) L nm0 out y0) yesP (by kernel_rfl) (by kernel_rfl) (by kernel_rfl) (by kernel_rfl) (by kernel_rfl) (fun _ _ hb h => h.below hb) (@iwF_below (wr.heap.size) L nm0 out y0) hB0 ?_ ?_
      · intro q hq s w9 hs hB hd
        have s5 : s 5 = .slice A6 n6 c6 := hs 5 (by decide)
        have s7 : s 7 = .pointer (some ⟨wr.heap.size, 0, none⟩) := hs 7 (by decide)
        obtain rfl | rfl | rfl | rfl | rfl | rfl | rfl | rfl | rfl | rfl | rfl | rfl | rfl | rfl | rfl : q = 0 ∨ q = 1 ∨ q = 2 ∨ q = 3 ∨ q = 4 ∨ q = 5 ∨ q = 6 ∨ q = 7 ∨ q = 8 ∨ q = 9 ∨ q = 10 ∨ q = 11 ∨ q = 12 ∨ q = 13 ∨ q = 14 := iw_cases15 q hq
        · exact stepG_plain (by rfl) (stepS_move _ rfl ⟨Below.refl _ _, by show BsV out (s 5) w9; rw [s5]; exact ⟨_, _, _, rfl, hB.2⟩, fun j _ _ u _ => ⟨trivial, trivial⟩⟩)
        · refine stepG_plain (by rfl) (stepS_run (v := .pointer (some ⟨wr.heap.size, 1, none⟩)) ?_ ⟨Below.refl _ _, rfl, fun j _ _ u _ => ⟨trivial, trivial⟩⟩)
          simp [execOp, evS, s7, Result.andThen, go_sem]
        · have h1 : s 37 = .pointer (some ⟨wr.heap.size, 1, none⟩) := hd 1 (by decide +kernel)
          refine stepG_plain (by rfl) (stepS_run (v := .int .i64 y0) ?_ ⟨Below.refl _ _, rfl, fun j _ _ u _ => ⟨trivial, trivial⟩⟩)
          simp [execOp, evS, h1, hB.1.2.2.1, Result.andThen, go_sem]
        · have h2 : s 38 = .int .i64 y0 := hd 2 (by decide +kernel)
          refine stepG_plain (by rfl) (stepS_run (v := .int .u64 y0) ?_ ⟨Below.refl _ _, rfl, fun j _ _ u _ => ⟨trivial, trivial⟩⟩)
          simp [execOp, evS, h2, hw1, Result.andThen, go_sem]
        · refine stepG_plain (by rfl) (stepS_run (v := .pointer (some ⟨wr.heap.size, 0, none⟩)) ?_ ⟨Below.refl _ _, rfl, fun j _ _ u _ => ⟨trivial, trivial⟩⟩)
          simp [execOp, evS, s7, Result.andThen, go_sem]
        · have h4 : s 40 = .pointer (some ⟨wr.heap.size, 0, none⟩) := hd 4 (by decide +kernel)
          refine stepG_plain (by rfl) (stepS_run (v := .string (str nm0)) ?_ ⟨Below.refl _ _, rfl, fun j _ _ u _ => ⟨trivial, trivial⟩⟩)
          simp [execOp, evS, h4, hB.1.2.1, Result.andThen, go_sem]
        · have h5 : s 41 = .string (str nm0) := hd 5 (by decide +kernel)
          refine stepG_plain (by rfl) (stepS_run (v := .int .i64 (L : Int)) ?_ ⟨Below.refl _ _, rfl, fun j _ _ u _ => ⟨trivial, trivial⟩⟩)
          simp [execOp, evS, h5, hLz, hw3, hw4, Result.andThen, go_sem]
        · have h6 : s 42 = .int .i64 (L : Int) := hd 6 (by decide +kernel)
          refine stepG_plain (by rfl) (stepS_run (v := .int .u64 (L : Int)) ?_ ⟨Below.refl _ _, rfl, fun j _ _ u _ => ⟨trivial, trivial⟩⟩)
          simp [execOp, evS, h6, hw2, Result.andThen, go_sem]
        · have h3 : s 39 = .int .u64 y0 := hd 3 (by decide +kernel)
          have h7 : s 43 = .int .u64 (L : Int) := hd 7 (by decide +kernel)
          refine stepG_plain (by rfl) ?_
          refine stepS_two rfl Try.underlying74 info_u641 h3 h7 rfl rfl ?_
          exact ⟨(Below.refl _ _).alloc (Nat.le_refl _) _, ⟨_, _, _, rfl, Is.new rfl rfl rfl (by decide)⟩, fun j _ _ u _ => ⟨trivial, trivial⟩⟩
        · have h8 := hd 8 (by decide +kernel)
          refine stepG_plain (by rfl) ?_
          obtain ⟨A9, n9, c9, h9, b9⟩ : IsV .u64 [y0, (L : Int)] (s 44) w9 := h8
          refine stepS_call rfl Try.func27 (by kernel_rfl) (by kernel_rfl) #[.int .i64 1, .slice A9 n9 c9] (by simp [evS, h9]) ?_
          refine (HNs.out A9 n9 c9 w9 b9).mono ?_
          rintro e w10 ⟨v, rfl, hv, hb⟩
          exact ⟨_, rfl, hb, hv, fun j _ _ u _ => ⟨trivial, trivial⟩⟩
        · refine stepG_plain (by rfl) (stepS_run (v := .pointer (some ⟨wr.heap.size, 0, none⟩)) ?_ ⟨Below.refl _ _, rfl, fun j _ _ u _ => ⟨trivial, trivial⟩⟩)
          simp [execOp, evS, s7, Result.andThen, go_sem]
        · have h10 : s 46 = .pointer (some ⟨wr.heap.size, 0, none⟩) := hd 10 (by decide +kernel)
          refine stepG_plain (by rfl) (stepS_run (v := .string (str nm0)) ?_ ⟨Below.refl _ _, rfl, fun j _ _ u _ => ⟨trivial, trivial⟩⟩)
          simp [execOp, evS, h10, hB.1.2.1, Result.andThen, go_sem]
        · have h11 : s 47 = .string (str nm0) := hd 11 (by decide +kernel)
          refine stepG_plain (by rfl) ?_
          obtain ⟨v, w10, hr, hv, hb⟩ := HCV.out w9
          refine stepS_runw (v := v) (w1 := w10) ?_ ⟨hb, hv, fun j _ _ u _ => ⟨trivial, trivial⟩⟩
          simp [execOp, evS, h11, Result.andThen, go_sem, hr]
        · obtain ⟨A0, n0, c0, h0, b0⟩ : BsV out (s 36) w9 := hd 0 (by decide +kernel)
          obtain ⟨A9, n9, c9, h9, b9⟩ : BsV (numsB 1 [y0, (L : Int)]) (s 45) w9 := hd 9 (by decide +kernel)
          obtain ⟨A12, n12, c12, h12, b12⟩ : BsV nm0 (s 48) w9 := hd 12 (by decide +kernel)
          refine stepG_plain (by rfl) ?_
          refine stepS_three rfl Try.underlying71 info_bs1 h0 h9 h12 rfl rfl rfl ?_
          exact ⟨(Below.refl _ _).alloc (Nat.le_refl _) _, ⟨_, _, _, rfl, Bss.new3 rfl b0 b9 b12⟩, fun j _ _ u _ => ⟨trivial, trivial⟩⟩
        · have h13 := hd 13 (by decide +kernel)
          refine stepG_plain (by rfl) ?_
          obtain ⟨A9, n9, c9, h9, b9⟩ : BssV [out, numsB 1 [y0, (L : Int)], nm0] (s 49) w9 := h13
          refine stepS_call rfl Try.func25 (by kernel_rfl) (by kernel_rfl) #[.slice A9 n9 c9] (by simp [evS, h9]) ?_
          refine (HJ.out A9 n9 c9 w9 b9).mono ?_
          rintro e w10 ⟨v, rfl, hv, hb⟩
          rw [iw_flat3] at hv
          exact ⟨_, rfl, hb, hv, fun j _ _ u _ => ⟨trivial, trivial⟩⟩
      · intro s w9 hB hd _
        obtain ⟨A7, n7, c7, h14, b14⟩ : BsV (out ++ (numsB 1 [y0, (L : Int)] ++ nm0)) (s 50) w9 := hd 14 (by decide)
        refine wpAny_one 15 _ (by kernel_rfl) (by simp only [List.getElem?_toArray, List.getElem?_cons_succ, List.getElem?_cons_zero]; rfl) (by rfl) ?_
        refine StepS.wp (K := fun v w' => v = .slice A7 n7 c7 ∧ w' = w9) ?_ ?_
        · refine stepS_assign _ rfl ⟨?_, rfl⟩
          simp [evS, setAll, h14]
        rintro v w' ⟨rfl, rfl⟩
        refine wpAny_end (by kernel_rfl) ?_
        obtain ⟨⟨hBx, _⟩, _⟩ := hB
        clear hd h14 hB0
        simp only [setAll, List.foldl_cons, List.foldl_nil, List.getElem_toArray, List.getElem_cons_succ, List.getElem_cons_zero, Act.put, List.setIfInBounds_toArray, List.set_cons_zero, List.set_cons_succ]
        go_wp2_with fail
        go_roundw
        case rel => exact ⟨i + 1, A7, n7, c7, by omega, rfl, by go_num, by rw [HST.out]; exact b14, hBx⟩
        case measure => simp [intOf]; omega
    · have hin : i = n := by omega
      subst hin
      go_wp2_with fail
      go_ret2
      refine ⟨_, rfl, ?_, hbr.below⟩
      rw [HW.out, ← HN.out]
      rw [List.take_of_length_le (by rw [← HN.out]; exact Nat.le_refl _)] at hs6
      exact ⟨_, _, _, rfl, hs6⟩
end Go.Proofs.YteghldapcfkekaaK

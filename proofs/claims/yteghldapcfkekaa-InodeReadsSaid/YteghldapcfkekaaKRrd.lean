import Derived.Test.YteghldapcfkekaaKRrdE
namespace Go.Proofs.YteghldapcfkekaaK
open Go.RowKit
set_option linter.unusedSimpArgs false
set_option linter.unusedVariables false
/-! The reference's Read of a directory. -/
theorem gen_frame {P : Program} {ops : Array Oper} {Q : Exit → Act → World → Prop} {n : Nat} {listed : Array Bool} {ds : List Deferred} {w : World} (base : Array Value) (s : Nat → Value) (D : List Nat) (h : ∀ fr, fr = setAll base s D → wpAny P .any ops Q n listed ⟨fr, ds⟩ w) : wpAny P .any ops Q n listed ⟨setAll base s D, ds⟩ w := h _ rfl
theorem put_size (a : Act) (d : Nat) (v : Value) : (a.put (some d) v).tmps.size = a.tmps.size := by simp [Act.put]
theorem put_at (a : Act) (d : Nat) (v : Value) (h : d < a.tmps.size) : (a.put (some d) v).tmps.getD d undef = v := by
  simp [Act.put, Array.getD_eq_getD_getElem?, h]
theorem put_ne (a : Act) (d k : Nat) (v : Value) (h : k ≠ d) : (a.put (some d) v).tmps.getD k undef = a.tmps.getD k undef := by
  simp only [Act.put, Array.getD_eq_getD_getElem?]
  rw [Array.getElem?_setIfInBounds_ne (Ne.symm h)]
theorem wpAny_oneS {P : Program} {ops : Array Oper} {Q : Exit → Act → World → Prop} {n : Nat} {listed : Array Bool} {a : Act} {w : World} {K : Value → World → Prop} (i : Nat) (d : Option Tmp) (hr : Region.ready .any ops listed = [i]) (hi : decide (i < ops.size) = true) (hg : (ops.getD i default).guard = none) (hd : (ops.getD i default).dst = d)
    (hs : StepS P (ops.getD i default) (fun k => a.tmps.getD k undef) w K) (h : ∀ v w', K v w' → wpAny P .any ops Q n (listed.setIfInBounds i true) (a.put d v) w') : wpAny P .any ops Q (n + 1) listed a w := by
  have hi := of_decide_eq_true hi
  refine wpAny_one i (ops.getD i default) hr ?_ hg (StepS.wp hs fun v w' hk => ?_)
  · simp [Array.getD, hi]
  · rw [hd]; exact h v w' hk
theorem rrd_sliceAt (x : Value) (lo hi : Option Value) (w : World) : (Instr.sliceAt 30 x lo hi none).run Try.prog w = (Instr.slice 30 x lo hi none).run Try.prog w := by
  simp [Instr.sliceAt, run_underlying Try.underlying30]
theorem StepS.at1 {P : Program} {o : Oper} {s : Nat → Value} {w : World} {K : Value → World → Prop} (i : Nat) (u : Value) (hi : s i = u) (h : ∀ s', s' i = u → StepS P o s' w K) : StepS P o s w K := h s hi
theorem StepS.at2 {P : Program} {o : Oper} {s : Nat → Value} {w : World} {K : Value → World → Prop} (i : Nat) (u : Value) (j : Nat) (v : Value) (hi : s i = u) (hj : s j = v) (h : ∀ s', s' i = u → s' j = v → StepS P o s' w K) : StepS P o s w K := h s hi hj
theorem rrd_meas (k c1 : Nat) (h : k < c1) : c1 - (intOf (.int .i64 ((k : Int) + 1))).toNat < c1 - (intOf (.int .i64 (k : Int))).toNat := by
  show c1 - ((k : Int) + 1).toNat < c1 - ((k : Int)).toNat
  omega
theorem rrd_cases (i : Nat) (h : i < 18) : i = 0 ∨ i = 1 ∨ i = 2 ∨ i = 3 ∨ i = 4 ∨ i = 5 ∨ i = 6 ∨ i = 7 ∨ i = 8 ∨ i = 9 ∨ i = 10 ∨ i = 11 ∨ i = 12 ∨ i = 13 ∨ i = 14 ∨ i = 15 ∨ i = 16 ∨ i = 17 := by omega
def rrdF (xb : Nat) (a : Addr) (n c m i2 l y : Nat) (A9 : Option Addr) (j9 c9 : Nat) (nm : List UInt8) : Nat → Value → World → Prop
  | 0, v, _ => v = .pointer (some ⟨xb, 2, none⟩)
  | 1, v, _ => v = .slice A9 j9 c9
  | 2, v, _ => v = .slice (some a) n c
  | 3, v, _ => v = .int .i64 (m : Int)
  | 4, v, _ => v = .pointer (some (a.add m))
  | 5, v, _ => v = .int .u8 (y : Int)
  | 6, v, _ => v = .int .i64 (y : Int)
  | 7, v, _ => v = .slice (some a) n c
  | 8, v, _ => v = .int .i64 (m : Int)
  | 9, v, _ => v = .int .i64 (i2 : Int)
  | 10, v, _ => v = .int .i64 (m : Int)
  | 11, v, _ => v = .int .i64 (i2 : Int)
  | 12, v, _ => v = .int .i64 (l : Int)
  | 13, v, _ => v = .int .i64 ((i2 : Int) + (l : Int))
  | 14, v, w => BsV nm v w
  | 15, v, _ => v = .string (str nm)
  | 16, v, _ => v = .agg #[.string (str nm), .int .i64 (y : Int)]
  | 17, v, w => ∃ b, v = .slice (some ⟨b, 0, none⟩) 1 1 ∧ At w (some ⟨b, 0, none⟩) [.string (str nm), .int .i64 (y : Int)]
  | _, _, _ => False
theorem rrdF_below {xb : Nat} {a : Addr} {n c m i2 l y : Nat} {A9 : Option Addr} {j9 c9 : Nat} {nm : List UInt8} (i : Nat) (v : Value) (w w' : World) (hb : Below w.heap.size w w') (h : rrdF xb a n c m i2 l y A9 j9 c9 nm i v w) : rrdF xb a n c m i2 l y A9 j9 c9 nm i v w' := by
  match i with
  | 14 => exact BsV.below h hb
  | 17 => exact (by obtain ⟨b, h1, h2⟩ := (h : ∃ b, v = .slice (some ⟨b, 0, none⟩) 1 1 ∧ At w (some ⟨b, 0, none⟩) [.string (str nm), .int .i64 (y : Int)]); exact ⟨b, h1, h2.below hb⟩)
  | 0 | 1 | 2 | 3 | 4 | 5 | 6 | 7 | 8 | 9 | 10 | 11 => exact h
  | 12 | 13 | 15 | 16 => exact h
  | n + 18 => exact h
set_option maxRecDepth 100000 in
set_option maxHeartbeats 16000000 in
theorem rrd_dir (A : Option Addr) (n c : Nat) (bs : List UInt8) (w : World) (hX : Bs w (.slice A n c) bs) (hl : bs.length ≤ 1000) (hn2 : 2 ≤ n) (hk0 : bA bs 0 = 2) (h8c : ¬ 8 < bA bs 1) :
    Calls Try.prog 17 #[.slice A n c] w fun e w' => RdOut bs e w' ∧ Below w.heap.size w w' := by
  have HN := Lib.hid hX.len
  have HX := Lib.hid hX
  have hXb := hX.below ((Below.refl w.heap.size w).alloc (Nat.le_refl _) (.cells #[.int .i64 0, .int .i64 0, .slice none 0 0] 28))
  have HXb := Lib.hid hXb
  have hB0 := Bx.here w (.cells #[.int .i64 0, .int .i64 0, .slice none 0 0] 28)
  have HN1000 : Hid (n ≤ 1000) := Lib.hid (by rw [HN.out]; exact hl)
  clear hX hXb
  obtain ⟨xf0, xf1, xf2⟩ : (w.alloc (.cells #[.int .i64 0, .int .i64 0, .slice none 0 0] 28)).frozen? ⟨w.heap.size, 0, none⟩ = false ∧ (w.alloc (.cells #[.int .i64 0, .int .i64 0, .slice none 0 0] 28)).frozen? ⟨w.heap.size, 1, none⟩ = false ∧ (w.alloc (.cells #[.int .i64 0, .int .i64 0, .slice none 0 0] 28)).frozen? ⟨w.heap.size, 2, none⟩ = false := ⟨frozen_of hB0.row 0, frozen_of hB0.row 1, frozen_of hB0.row 2⟩
  obtain ⟨c0, hc0⟩ : ∃ x, x = bA bs 0 := ⟨_, rfl⟩
  have hn2' : 2 ≤ n := hn2
  have HN2 : Hid (2 ≤ bs.length) := Lib.hid (by rw [← HN.out]; exact hn2')
  obtain ⟨a, rfl, hb0⟩ := HXb.out.at_ 0 (by omega)
  obtain ⟨a1, ha1, hb1⟩ := HXb.out.at_ 1 (by omega)
  cases ha1
  rw [← hc0] at hb0
  obtain ⟨c1, hc1⟩ : ∃ x, x = bA bs 1 := ⟨_, rfl⟩
  rw [← hc1] at hb1
  have hb11 : (w.alloc (.cells #[.int .i64 0, .int .i64 0, .slice none 0 0] 28)).cell? ⟨a.block, a.off + 1, none⟩ = some (.int .u8 (c1 : Int)) := by rw [add_nextE a 0] at hb1; exact hb1
  have hb00 : (w.alloc (.cells #[.int .i64 0, .int .i64 0, .slice none 0 0] 28)).cell? a = some (.int .u8 (c0 : Int)) := hb0
  have hc0l : c0 < 256 := by rw [hc0]; exact bA_lt bs 0
  have hc1l : c1 < 256 := by rw [hc1]; exact bA_lt bs 1
  have HC0 := Lib.hid hc0
  have HC1 := Lib.hid hc1
  clear hc0 hc1
  have hk : c0 = 2 := HC0.out.trans hk0
  have h8 : ¬ 8 < c1 := by rw [HC1.out]; exact h8c
  clear hk0 h8c
  subst hk
  have hK2 : bA bs 0 = 2 := HC0.out.symm
  have HK2 := Lib.hid hK2
  replace hb0 : (w.alloc (.cells #[.int .i64 0, .int .i64 0, .slice none 0 0] 28)).cell? (a.add 0) = some (.int .u8 2) := hb0
  replace hb00 : (w.alloc (.cells #[.int .i64 0, .int .i64 0, .slice none 0 0] 28)).cell? a = some (.int .u8 2) := hb00
  clear hK2
  have hRT := RT.init w
  have HRT := Lib.hid hRT
  have HM0 : Hid (Mid c1 c1 (bs.drop 2) (bs.drop 2) false []) := Lib.hid (Mid.start _ _)
  have HCW := Lib.hid (byte_wrap c1 hc1l)
  clear hRT
  go_enter Try.func17, Try.ntmps17
  go_upto_region 9 with fail
  all_goals
    go_loopw [6, 7] (fun v6 v7 wr => ∃ (k i : Nat) (A9 : Option Addr) (j9 c9 : Nat) (es : List (List UInt8 × Int)), v6 = .int .i64 (i : Int) ∧ v7 = .int .i64 (k : Int) ∧ k ≤ c1 ∧ i ≤ n ∧ RT w wr (.slice A9 j9 c9) j9 es ∧ Mid c1 (c1 - k) (bs.drop 2) (bs.drop i) false es ∧ j9 ≤ k) (fun _ v7 _ => c1 - (intOf v7).toNat)
    case atStart => exact ⟨0, 2, none, 0, 0, [], rfl, rfl, by omega, hn2', HRT.out, HM0.out, by omega⟩
    case round =>
      obtain ⟨k, i, A9, j9, c9, es, rfl, rfl, hkc, hin0, hRT, hM, hj9⟩ := hrel
      obtain ⟨⟨x0, x1, x2, xf⟩, y0, y1, y2, yf⟩ := hRT.cells
      have xf10 := xf 0
      have xf11 := xf 1
      have xf12 := xf 2
      have hBs := HX.out.below hRT.bel
      obtain ⟨a2, ha2, hbb1⟩ := hBs.at_ 1 (by omega)
      cases ha2
      rw [add_nextE a 0, ← HC1.out] at hbb1
      replace hbb1 : wr.cell? ⟨a.block, a.off + 1, none⟩ = some (.int .u8 (c1 : Int)) := hbb1
      have HRTs := Lib.hid hRT
      have HM := Lib.hid hM
      clear xf yf hM
      by_cases hkl : k < c1
      rotate_left
      · obtain rfl : k = c1 := by omega
        have hM2 := HM.out
        rw [Nat.sub_self] at hM2
        by_cases hie : i = n
        · subst hie
          have hdr : bs.drop i = [] := List.drop_of_length_le (by rw [HN.out]; exact Nat.le_refl _)
          have hfin := rdI_mid HN2.out HK2.out (i := i) (es := es) (by rw [← HC1.out]; exact hM2)
          rw [hdr] at hfin
          rcases hR : rightI 2 0 es with _ | _
          · have HNO := Lib.hid (hfin.trans (finI_no hR))
            have HCk := Lib.hid (fun W A n c h => by have := rri_any 2 0 A n c es W h; rw [hR] at this; exact this)
            clear hfin hR hM2 hdr hkl
            have hcw1 := HCW.out.1
            go_wp2_with (go_at_call 19; refine (HCk.out _ _ _ _ HRTs.out.es).mono ?_; rintro e w5 ⟨rfl, hb5⟩; have hRT5 := HRTs.out.below hb5; obtain ⟨⟨z0, z1, z2, zf⟩, t0, t1, t2, tf⟩ := hRT5.cells; have zf0 := zf 0; have zf1 := zf 1; have zf2 := zf 2; clear zf tf; have HLD := Lib.hid (inode_load (set3_row hRT5.2.1 (.int .i64 0) (.int .i64 0) (.slice none 0 0))); have HBE := Lib.hid (set3_below hRT5.bel (Nat.le_refl _) (.int .i64 0) (.int .i64 0) (.slice none 0 0)); clear hRT5 hb5)
            refine bodyPost_ret (v := .tuple #[.agg #[.int .i64 0, .int .i64 0, .slice none 0 0], .int .i64 11]) ?_ rfl ⟨RdOut.none HNO.out _, HBE.out⟩
            rw [results_cell_tmp rfl]
            simp [asAddr, Result.andThen, HLD.out]
          · have HYE := Lib.hid (hfin.trans (finI_ok hR))
            have HCk := Lib.hid (fun W A n c h => by have := rri_any 2 0 A n c es W h; rw [hR] at this; exact this)
            clear hfin hR hM2 hdr hkl
            have hcw1 := HCW.out.1
            go_wp2_with (go_at_call 19; refine (HCk.out _ _ _ _ HRTs.out.es).mono ?_; rintro e w5 ⟨rfl, hb5⟩; have hRT5 := HRTs.out.below hb5; obtain ⟨⟨z0, z1, z2, zf⟩, t0, t1, t2, tf⟩ := hRT5.cells; have zf0 := zf 0; have zf1 := zf 1; have zf2 := zf 2; clear zf tf; have HLD := Lib.hid (inode_load (set3_row hRT5.2.1 (.int .i64 2) (.int .i64 0) (.slice A9 j9 c9))); have HBE := Lib.hid (set3_below hRT5.bel (Nat.le_refl _) (.int .i64 2) (.int .i64 0) (.slice A9 j9 c9)); have HES := Lib.hid hRT5.fin; clear hRT5 hb5)
            refine bodyPost_ret (v := .tuple #[.agg #[.int .i64 2, .int .i64 0, .slice A9 j9 c9], .int .i64 0]) ?_ rfl ⟨RdOut.some HYE.out HES.out, HBE.out⟩
            rw [results_cell_tmp rfl]
            simp [asAddr, Result.andThen, HLD.out]
        · have hfin := rdI_mid HN2.out HK2.out (i := i) (es := es) (by rw [← HC1.out]; exact hM2)
          have HNO : Hid (rdI bs = none) := Lib.hid (by
            rw [hfin]
            have hl : (bs.drop i).length ≠ 0 := by rw [List.length_drop, ← HN.out]; omega
            match hd : bs.drop i with
            | [] => rw [hd] at hl; exact absurd rfl hl
            | x :: t => rfl)
          have HLD := Lib.hid (inode_load (set3_row hRT.2.1 (.int .i64 0) (.int .i64 0) (.slice none 0 0)))
          have HBE := Lib.hid (set3_below hRT.bel (Nat.le_refl _) (.int .i64 0) (.int .i64 0) (.slice none 0 0))
          have hieb : ((i : Int) != n) = true := bne_iff_ne.2 (by omega)
          clear hfin hM2 hkl
          have hcw1 := HCW.out.1
          go_wp2_with fail
          refine bodyPost_ret (v := .tuple #[.agg #[.int .i64 0, .int .i64 0, .slice none 0 0], .int .i64 11]) ?_ rfl ⟨RdOut.none HNO.out _, HBE.out⟩
          rw [results_cell_tmp rfl]
          simp [asAddr, Result.andThen, HLD.out]
      have hks : c1 - k = (c1 - (k + 1)) + 1 := by omega
      have hM1 := HM.out
      rw [hks] at hM1
      have HM1 := Lib.hid hM1
      clear hM1 hks
      obtain ⟨i2, hi2⟩ : ∃ x, x = i + 2 := ⟨_, rfl⟩
      obtain ⟨i1, hi1'⟩ : ∃ x, x = i + 1 := ⟨_, rfl⟩
      obtain ⟨l, hl9⟩ : ∃ x, x = bA bs (i + 1) := ⟨_, rfl⟩
      have hl256 : l < 256 := by rw [hl9]; exact bA_lt bs (i + 1)
      have HWN := Lib.hid (rrd_nums i i1 i2 l n hi1' hi2 hl256 hin0 HN1000.out)
      have HLW := Lib.hid (byte_wrap l hl256)
      have hkli : ((k : Int) < c1) := by omega
      by_cases hs : n < i2
      · have HNO := Lib.hid (rdI_mid_no HN2.out HK2.out (by rw [← HC1.out]; exact HM1.out.no (takeE_no (by rw [← HN.out, ← hi2]; exact hs))))
        have HLD := Lib.hid (inode_load (set3_row hRT.2.1 (.int .i64 0) (.int .i64 0) (.slice none 0 0)))
        have HBE := Lib.hid (set3_below hRT.bel (Nat.le_refl _) (.int .i64 0) (.int .i64 0) (.slice none 0 0))
        have hsb : decide ((n : Int) < i2) = true := decide_eq_true (by omega)
        clear hRT hi2 hi1' hl9 hBs
        have hcw1 := HCW.out.1
        have hw2b := HWN.out.2.1
        have hw1b := HWN.out.2.2.2.1
        have hw3b := HWN.out.2.2.2.2.2
        have hlw := HLW.out.1
        go_wp2_with fail
        refine bodyPost_ret (v := .tuple #[.agg #[.int .i64 0, .int .i64 0, .slice none 0 0], .int .i64 11]) ?_ rfl ⟨RdOut.none HNO.out _, HBE.out⟩
        rw [results_cell_tmp rfl]
        simp [asAddr, Result.andThen, HLD.out]
      have hs2 : i2 ≤ n := Nat.le_of_not_lt hs
      have hsb : decide ((n : Int) < i2) = false := decide_eq_false (by omega)
      obtain ⟨a2, ha2, hbl⟩ := hBs.at_ (i + 1) (by omega)
      cases ha2
      rw [← hl9, ← hi1'] at hbl
      have hi1n : i1 < n := by omega
      by_cases hq : n < i2 + l
      · have HNO := Lib.hid (rdI_mid_no HN2.out HK2.out (by rw [← HC1.out]; exact HM1.out.no (takeE_long (by rw [← HN.out, ← hi2]; exact hs2) (by rw [← HN.out, ← hi2, ← hl9]; exact hq))))
        have HLD := Lib.hid (inode_load (set3_row hRT.2.1 (.int .i64 0) (.int .i64 0) (.slice none 0 0)))
        have HBE := Lib.hid (set3_below hRT.bel (Nat.le_refl _) (.int .i64 0) (.int .i64 0) (.slice none 0 0))
        have hqb : decide ((n : Int) < (i2 : Int) + l) = true := decide_eq_true (by omega)
        clear hRT hi2 hi1' hl9 hBs
        have hcw1 := HCW.out.1
        have hw2b := HWN.out.2.1
        have hw1b := HWN.out.2.2.2.1
        have hw3b := HWN.out.2.2.2.2.2
        have hlw := HLW.out.1
        go_wp2_with fail
        refine bodyPost_ret (v := .tuple #[.agg #[.int .i64 0, .int .i64 0, .slice none 0 0], .int .i64 11]) ?_ rfl ⟨RdOut.none HNO.out _, HBE.out⟩
        rw [results_cell_tmp rfl]
        simp [asAddr, Result.andThen, HLD.out]
      have hqb : decide ((n : Int) < (i2 : Int) + l) = false := decide_eq_false (by omega)
      have HIL : Hid (i2 + l ≤ n) := Lib.hid (Nat.le_of_not_lt hq)
      have HI2 := Lib.hid hi2
      have HI1' := Lib.hid hi1'
      have HL9 := Lib.hid hl9
      have HBs := Lib.hid hBs
      have HQ := Lib.hid hs2
      have hILv := HIL.out
      clear hRT hi2 hi1' hl9 hBs hs
      have hcw1 := HCW.out.1
      have hw2b := HWN.out.2.1
      have hw1b := HWN.out.2.2.2.1
      have hw3b := HWN.out.2.2.2.2.2
      have hlw := HLW.out.1
      go_upto_region 14 with fail
      clear hq hILv
      have hs2 := HQ.out
      have hRT := HRTs.out
      have hBs := HBs.out
      have hi2 := HI2.out
      have hl9 := HL9.out
      clear hw1b hw2b hw3b hlw hcw1
      obtain ⟨y, hy⟩ : ∃ x, x = bA bs i := ⟨_, rfl⟩
      have HYW := Lib.hid (byte_wrap y (by rw [hy]; exact bA_lt bs i))
      obtain ⟨nm, hnm⟩ : ∃ x, x = (bs.drop i2).take l := ⟨_, rfl⟩
      have HM2 : Hid (Mid c1 (c1 - (k + 1)) (bs.drop 2) (bs.drop (i2 + l)) false (es ++ [(nm, (y : Int))])) := Lib.hid (by
        have ht := takeE_two (bs := bs) (i := i) (by rw [← HN.out, ← hi2]; exact hs2) (by rw [← HN.out, ← hi2, ← hl9]; exact HIL.out)
        rw [← hi2, ← hl9, ← hy, ← hnm] at ht
        exact HM1.out.yes ht)
      have HY := Lib.hid hy
      have HNM := Lib.hid hnm
      have HCM := Lib.hid (cut_mid wr (some a) n c i2 l bs hBs HIL.out)
      have hin : i < n := by omega
      have hi0 : (0 : Int) ≤ i := by omega
      have hi1 : (i : Int) < n := by omega
      have HJ9 : Hid (j9 ≤ 300) := Lib.hid (by omega)
      clear hy hnm hi2 hl9 hs2
      have hB0 : rdB w (.slice A9 j9 c9) j9 es (.slice (some a) n c) bs wr.drew := ⟨hRT.below (Below.refl _ _).drew, hBs.below (Below.refl _ _).drew⟩
      obtain ⟨hw2, hw2b, _, _, hw3, hw3b⟩ := HWN.out
      have hyw := HYW.out.1
      clear hRT hBs
      refine wp_region_front 18 [83, 84, 85, 86, 87, 88, 89, 90, 91, 92, 93, 94, 95, 96, 97, 98, 99, 100] 3 #[true, true, true, true, true, true, true, true, true, true, true, true, true, true, true, true, true, true, false, false, false] (rdB w (.slice A9 j9 c9) j9 es (.slice (some a) n c) bs) (rrdF (w.heap.size + 1) a n c i i2 l y A9 j9 c9 nm) yesP (by kernel_rfl) (by kernel_rfl) (by kernel_rfl) (by kernel_rfl) (by kernel_rfl) (fun _ _ hb h => h.below hb) (@rrdF_below (w.heap.size + 1) a n c i i2 l y A9 j9 c9 nm) hB0 ?_ ?_
      · intro q hq s w9 hs hB hd
        have s0 : s 0 = .slice (some a) n c := hs 0 (by decide)
        have s5 : s 5 = .pointer (some ⟨w.heap.size + 1, 0, none⟩) := hs 5 (by decide)
        have s6 : s 6 = .int .i64 (i : Int) := hs 6 (by decide)
        have s8 : s 8 = .int .i64 (l : Int) := hs 8 (by decide)
        obtain ⟨a2, ha2, hcy⟩ := hB.2.at_ i hin
        cases ha2
        rw [← HY.out] at hcy
        obtain rfl | rfl | rfl | rfl | rfl | rfl | rfl | rfl | rfl | rfl | rfl | rfl | rfl | rfl | rfl | rfl | rfl | rfl : q = 0 ∨ q = 1 ∨ q = 2 ∨ q = 3 ∨ q = 4 ∨ q = 5 ∨ q = 6 ∨ q = 7 ∨ q = 8 ∨ q = 9 ∨ q = 10 ∨ q = 11 ∨ q = 12 ∨ q = 13 ∨ q = 14 ∨ q = 15 ∨ q = 16 ∨ q = 17 := rrd_cases q hq
        · refine stepG_plain (by rfl) (stepS_run (v := .pointer (some ⟨w.heap.size + 1, 2, none⟩)) ?_ ⟨Below.refl _ _, rfl, fun j _ _ u _ => ⟨trivial, trivial⟩⟩)
          simp [execOp, evS, s5, Result.andThen, go_sem]
        · have h0 : s 83 = .pointer (some ⟨w.heap.size + 1, 2, none⟩) := hd 0 (by decide +kernel)
          refine stepG_plain (by rfl) (stepS_run (v := .slice A9 j9 c9) ?_ ⟨Below.refl _ _, rfl, fun j _ _ u _ => ⟨trivial, trivial⟩⟩)
          simp [execOp, evS, h0, hB.1.cells.2.2.2.1, Result.andThen, go_sem]
        · exact stepG_plain (by rfl) (stepS_move _ rfl ⟨Below.refl _ _, s0, fun j _ _ u _ => ⟨trivial, trivial⟩⟩)
        · exact stepG_plain (by rfl) (stepS_move _ rfl ⟨Below.refl _ _, s6, fun j _ _ u _ => ⟨trivial, trivial⟩⟩)
        · have h2 : s 85 = .slice (some a) n c := hd 2 (by decide +kernel)
          have h3 : s 86 = .int .i64 (i : Int) := hd 3 (by decide +kernel)
          refine stepG_plain (by rfl) (stepS_run (v := .pointer (some (a.add i))) ?_ ⟨Below.refl _ _, rfl, fun j _ _ u _ => ⟨trivial, trivial⟩⟩)
          simp [execOp, evS, h2, h3, hi0, hi1, hin, Result.andThen, go_sem]
        · have h4 : s 87 = .pointer (some (a.add i)) := hd 4 (by decide +kernel)
          refine stepG_plain (by rfl) (stepS_run (v := .int .u8 (y : Int)) ?_ ⟨Below.refl _ _, rfl, fun j _ _ u _ => ⟨trivial, trivial⟩⟩)
          simp [execOp, evS, h4, hcy, Result.andThen, go_sem]
        · have h5 : s 88 = .int .u8 (y : Int) := hd 5 (by decide +kernel)
          refine stepG_plain (by rfl) (stepS_run (v := .int .i64 (y : Int)) ?_ ⟨Below.refl _ _, rfl, fun j _ _ u _ => ⟨trivial, trivial⟩⟩)
          simp [execOp, evS, h5, hyw, Result.andThen, go_sem]
        · exact stepG_plain (by rfl) (stepS_move _ rfl ⟨Below.refl _ _, s0, fun j _ _ u _ => ⟨trivial, trivial⟩⟩)
        · exact stepG_plain (by rfl) (stepS_move _ rfl ⟨Below.refl _ _, s6, fun j _ _ u _ => ⟨trivial, trivial⟩⟩)
        · have h8 : s 91 = .int .i64 (i : Int) := hd 8 (by decide +kernel)
          refine stepG_plain (by rfl) (stepS_run (v := .int .i64 (i2 : Int)) ?_ ⟨Below.refl _ _, rfl, fun j _ _ u _ => ⟨trivial, trivial⟩⟩)
          simp [execOp, evS, h8, hw2, hw2b, Result.andThen, go_sem]
        · exact stepG_plain (by rfl) (stepS_move _ rfl ⟨Below.refl _ _, s6, fun j _ _ u _ => ⟨trivial, trivial⟩⟩)
        · have h10 : s 93 = .int .i64 (i : Int) := hd 10 (by decide +kernel)
          refine stepG_plain (by rfl) (stepS_run (v := .int .i64 (i2 : Int)) ?_ ⟨Below.refl _ _, rfl, fun j _ _ u _ => ⟨trivial, trivial⟩⟩)
          simp [execOp, evS, h10, hw2, hw2b, Result.andThen, go_sem]
        · exact stepG_plain (by rfl) (stepS_move _ rfl ⟨Below.refl _ _, s8, fun j _ _ u _ => ⟨trivial, trivial⟩⟩)
        · have h11 : s 94 = .int .i64 (i2 : Int) := hd 11 (by decide +kernel)
          have h12 : s 95 = .int .i64 (l : Int) := hd 12 (by decide +kernel)
          refine stepG_plain (by rfl) (stepS_run (v := .int .i64 ((i2 : Int) + (l : Int))) ?_ ⟨Below.refl _ _, rfl, fun j _ _ u _ => ⟨trivial, trivial⟩⟩)
          simp [execOp, evS, h11, h12, hw3, hw3b, Result.andThen, go_sem]
        · have h7 : s 90 = .slice (some a) n c := hd 7 (by decide +kernel)
          have h9 : s 92 = .int .i64 (i2 : Int) := hd 9 (by decide +kernel)
          have h13 : s 96 = .int .i64 ((i2 : Int) + (l : Int)) := hd 13 (by decide +kernel)
          refine stepG_plain (by rfl) ?_
          obtain ⟨A', c', hrun, hbs⟩ := HCM.out
          refine stepS_run (v := .slice A' l c') ?_ ⟨Below.refl _ _, ⟨_, _, _, rfl, by rw [HNM.out]; exact hbs w9 hB.2⟩, fun j _ _ u _ => ⟨trivial, trivial⟩⟩
          have hrun9 := (rrd_sliceAt _ _ _ w9).trans (hrun w9)
          simp [execOp, evS, h7, h9, h13, Result.andThen, hrun9]
        · obtain ⟨A14, n14, c14, h14, b14⟩ : BsV nm (s 97) w9 := hd 14 (by decide +kernel)
          refine stepG_plain (by rfl) (stepS_run (v := .string (str nm)) ?_ ⟨Below.refl _ _, rfl, fun j _ _ u _ => ⟨trivial, trivial⟩⟩)
          simp [execOp, evS, h14, run_str b14, Result.andThen, go_sem]
        · have h6 : s 89 = .int .i64 (y : Int) := hd 6 (by decide +kernel)
          have h15 : s 98 = .string (str nm) := hd 15 (by decide +kernel)
          refine stepG_plain (by rfl) (stepS_run (v := .agg #[.string (str nm), .int .i64 (y : Int)]) ?_ ⟨Below.refl _ _, rfl, fun j _ _ u _ => ⟨trivial, trivial⟩⟩)
          simp [execOp, evS, h6, h15, Result.andThen, go_sem]
        · have h16 : s 99 = .agg #[.string (str nm), .int .i64 (y : Int)] := hd 16 (by decide +kernel)
          refine stepG_plain (by rfl) ?_
          refine stepS_runw (v := .slice (some ⟨w9.heap.size, 0, none⟩) 1 1) (w1 := w9.alloc (.cells #[.string (str nm), .int .i64 (y : Int)] 46)) ?_ ⟨(Below.refl _ _).alloc (Nat.le_refl _) _, ⟨_, rfl, At.new w9 #[.string (str nm), .int .i64 (y : Int)] 46 (0, 0)⟩, fun j _ _ u _ => ⟨trivial, trivial⟩⟩
          simp [execOp, evS, h16, Result.andThen, go_sem]
      · intro s w9 hB hd _
        clear hw2 hw2b hw3 hw3b hyw
        have h1 : s 84 = .slice A9 j9 c9 := hd 1 (by decide)
        obtain ⟨b17, h17, a17⟩ : ∃ b, s 100 = .slice (some ⟨b, 0, none⟩) 1 1 ∧ At w9 (some ⟨b, 0, none⟩) [.string (str nm), .int .i64 (y : Int)] := hd 17 (by decide)
        obtain ⟨hRT, hBs⟩ := hB
        refine gen_frame _ _ _ fun fr hfr => ?_
        have e84 : fr.getD 84 undef = .slice A9 j9 c9 := by rw [hfr]; simp [setAll, h1]
        have e100 : fr.getD 100 undef = .slice (some ⟨b17, 0, none⟩) 1 1 := by rw [hfr]; simp [setAll, h17]
        have e5 : fr.getD 5 undef = .pointer (some ⟨w.heap.size + 1, 0, none⟩) := by rw [hfr]; simp [setAll]
        have esz : 102 < fr.size := by rw [hfr]; simp [setAll]
        have HFR := Lib.hid hfr
        clear hfr hd h1 h17
        refine wpAny_one 18 _ (by kernel_rfl) (by simp only [List.getElem?_toArray, List.getElem?_cons_succ, List.getElem?_cons_zero]; rfl) (by rfl) ?_
        refine wp_append_op (w.heap.size + 2) rfl _ _ 26 46 (.agg #[.string ByteArray.empty, .int .i64 0]) 2 24 rfl Try.underlying26 info_entry rfl (by decide) (by decide) (.slice A9 j9 c9) j9 (es.flatMap encE) (some ⟨b17, 0, none⟩) 1 1 [.string (str nm), .int .i64 (y : Int)] e84 e100 hRT.own a17 rfl (entry_one nm _) hRT.1 (by have := HJ9.out; omega) ?_
        intro v1 w1 ho1 hg1 ha1
        obtain ⟨A7, c7, rfl, _, _⟩ := own_form ho1
        obtain ⟨hgc, hgf, _⟩ := hRT.grown hg1
        have hRT2 := hRT.app (es1 := es ++ [(nm, (y : Int))]) (by rw [encE_snoc]; exact ho1) hg1
        refine wpAny_oneS (K := fun v w' => v = .pointer (some ⟨w.heap.size + 1, 2, none⟩) ∧ w1 = w') 19 (some 102) (by kernel_rfl) (by kernel_rfl) (by kernel_rfl) (by kernel_rfl) ?_ ?_
        · refine StepS.at1 5 (.pointer (some ⟨w.heap.size + 1, 0, none⟩)) ((put_ne _ _ _ _ (by decide)).trans e5) ?_
          intro s' h5
          refine stepS_run (v := .pointer (some ⟨w.heap.size + 1, 2, none⟩)) ?_ ⟨rfl, rfl⟩
          simp [execOp, evS, h5, go_sem]
        rintro v w' ⟨rfl, rfl⟩
        refine wpAny_oneS (K := fun v w' => w1.setCell ⟨w.heap.size + 1, 2, none⟩ (.slice A7 (j9 + 1) c7) = w') 20 none (by kernel_rfl) (by kernel_rfl) (by kernel_rfl) (by kernel_rfl) ?_ ?_
        · refine StepS.at2 102 (.pointer (some ⟨w.heap.size + 1, 2, none⟩)) 101 (.slice A7 (j9 + 1) c7) (put_at _ _ _ (by rw [put_size]; exact esz)) ((put_ne _ _ _ _ (by decide)).trans (put_at _ _ _ (Nat.lt_of_succ_lt esz))) ?_
          intro s' h102 h101
          unfold StepS
          simp [execOp, evS, h102, h101, hgc, hgf, go_sem]
        rintro v w' rfl
        refine wpAny_end (by kernel_rfl) ?_
        rw [HFR.out]
        have HRT2 := Lib.hid hRT2
        clear a17 hB0 ha1 hg1 hRT hRT2 hBs ho1 hgc hgf x0 x1 x2 y0 y1 y2 xf10 xf11 xf12 hbb1 hbl
        simp only [setAll, List.foldl_cons, List.foldl_nil, List.getElem_toArray, List.getElem_cons_succ, List.getElem_cons_zero, Act.put, List.setIfInBounds_toArray, List.set_cons_zero, List.set_cons_succ]
        have hw4b := (rrd_nums2 i i2 l n HI2.out HIL.out HN1000.out).2.1
        have hw5b := (rrd_nums2 i i2 l n HI2.out HIL.out HN1000.out).2.2.2
        go_wp2_with fail
        go_roundw
        case rel => exact ⟨k + 1, i2 + l, A7, j9 + 1, c7, es ++ [(nm, (y : Int))], rfl, by go_num, hkl, HIL.out, HRT2.out, HM2.out, Nat.succ_le_succ hj9⟩
        case measure => exact rrd_meas k c1 hkl
end Go.Proofs.YteghldapcfkekaaK

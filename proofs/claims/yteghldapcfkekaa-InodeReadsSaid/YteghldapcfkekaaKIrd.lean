import Derived.Test.YteghldapcfkekaaKIrdT
import Derived.Test.YteghldapcfkekaaKPackV
import Derived.Deep.DeepCutAuto
namespace Go.Proofs.YteghldapcfkekaaK
open Go.RowKit
set_option linter.unusedSimpArgs false
set_option linter.unusedVariables false
/-! inode.Read. -/
theorem rnum1 (b D : Nat) (bs : List UInt8) (bad : Bool) (w : World) (h : Rdr w b D bs bad) (hl : bs.length ≤ 1000) (N : Nat) (b1 : List UInt8) (q1 : Bool) (hN : N = numV (rdTake bs 1)) (hb1 : b1 = rdLeft bs 1) (hq1 : q1 = rdBad bs bad 1) :
    Calls Try.prog 31 #[.pointer (some ⟨b, 0, none⟩), .int .i64 1] w fun e w' => e = .returned (.int .u64 (N : Int)) ∧ Rdr w' b D b1 q1 ∧ w.grownBy w' (some b) := by
  subst hN hb1 hq1
  exact rnum_any b D bs bad 1 w h (by omega)
theorem rnum2 (b D : Nat) (bs : List UInt8) (bad : Bool) (w : World) (h : Rdr w b D bs bad) (hl : bs.length ≤ 1000) (N : Nat) (b1 : List UInt8) (q1 : Bool) (hN : N = numV (rdTake bs 2)) (hb1 : b1 = rdLeft bs 2) (hq1 : q1 = rdBad bs bad 2) :
    Calls Try.prog 31 #[.pointer (some ⟨b, 0, none⟩), .int .i64 2] w fun e w' => e = .returned (.int .u64 (N : Int)) ∧ Rdr w' b D b1 q1 ∧ w.grownBy w' (some b) := by
  subst hN hb1 hq1
  exact rnum_any b D bs bad 2 w h (by omega)
theorem rbytesN (b D : Nat) (bs : List UInt8) (bad : Bool) (l : Nat) (w : World) (h : Rdr w b D bs bad) (hl : bs.length ≤ 1000) (nm b1 : List UInt8) (q1 : Bool) (hN : nm = rdTake bs l) (hb1 : b1 = rdLeft bs l) (hq1 : q1 = rdBad bs bad l) :
    Calls Try.prog 33 #[.pointer (some ⟨b, 0, none⟩), .int .i64 (l : Int)] w fun e w' => ∃ v n, e = .returned v ∧ w'.ownsRow w.heap.size 5 1 v n (nm.map encB) ∧ Rdr w' b D b1 q1 ∧ w.grownBy w' (some b) := by
  subst hN hb1 hq1
  exact bytes_any b D bs bad (l : Int) w h (by omega)
theorem cnt_wrap (k9 k : Nat) (h : k9 = k + 1) (hk : k ≤ 256) : IntKind.i64.wrap ((k9 : Int) - 1) = k ∧ wrap64 ((k9 : Int) - 1) = k := by
  subst h
  constructor
  · rw [IntKind.wrap_i64]; omega
  · unfold wrap64; omega
theorem small_wrap (N : Nat) (h : N < 65536) : IntKind.i64.wrap (N : Int) = N := by rw [IntKind.wrap_i64]; omega
set_option maxRecDepth 100000 in
set_option maxHeartbeats 16000000 in
theorem iread_any (A : Option Addr) (n c : Nat) (bs : List UInt8) (w : World) (hX : Bs w (.slice A n c) bs) (hl : bs.length ≤ 1000) :
    Calls Try.prog 16 #[.slice A n c] w fun e w' => RdOut bs e w' ∧ Below w.heap.size w w' := by
  have hln := hX.len
  have HNew := Lib.hid (fun W h => new_any A n c bs W h (by rw [hln]; omega))
  have HX := Lib.hid (hX.below ((Below.refl w.heap.size w).alloc (Nat.le_refl _) (.cells #[.int .i64 0, .int .i64 0, .slice none 0 0] 28)))
  clear hX hln
  obtain ⟨K, hK⟩ : ∃ K, K = numV (rdTake bs 1) := ⟨_, rfl⟩
  obtain ⟨b1, hb1⟩ : ∃ b, b = rdLeft bs 1 := ⟨_, rfl⟩
  obtain ⟨q1, hq1⟩ : ∃ b, b = rdBad bs false 1 := ⟨_, rfl⟩
  have hl1 : b1.length ≤ 1000 := by rw [hb1]; exact Nat.le_trans (rdLeft_le bs 1) hl
  have H1 := Lib.hid (fun b D W h => rnum1 b D bs false W h hl K b1 q1 hK hb1 hq1)
  have hKw := small_wrap K (by rw [hK]; exact Nat.lt_of_lt_of_le (num1_lt bs) (by decide))
  have hF := rdI_first bs
  rw [← hK, ← hb1, ← hq1] at hF
  have HF := Lib.hid hF
  have HK := Lib.hid hK
  have HB1 := Lib.hid hb1
  have HQ1 := Lib.hid hq1
  clear hK hb1 hq1 hF
  have ARM1 := trivial
  by_cases hk1 : K = 1
  · subst hk1
    obtain ⟨Z, hZ⟩ : ∃ K, K = numV (rdTake b1 2) := ⟨_, rfl⟩
    obtain ⟨b2, hb2⟩ : ∃ b, b = rdLeft b1 2 := ⟨_, rfl⟩
    obtain ⟨q2, hq2⟩ : ∃ b, b = rdBad b1 q1 2 := ⟨_, rfl⟩
    have hFin : rdI bs = finI 1 (Z : Int) [] q2 b2 := by rw [HF.out, if_pos rfl, ← hZ, ← hb2, ← hq2]
    have H2 := Lib.hid (fun b D W h => rnum2 b D b1 q1 W h hl1 Z b2 q2 hZ hb2 hq2)
    have hZw := small_wrap Z (by rw [hZ]; exact num2_lt b1)
    have HFin := Lib.hid hFin
    clear hZ hb2 hq2 hFin
    rcases q2 with _ | _
    · go_enter Try.func16, Try.ntmps16
      go_upto_region 3 with (first
        | (go_at_call 30; refine (HNew.out _ HX.out).mono ?_; rintro e w1 ⟨rb, D, rfl, hrb, hD, hDr, hr1, hbel1⟩; have hS1 := RS.init rfl hD hDr hr1 hbel1)
        | (go_at_call 31; refine (H1.out rb D _ hr1).mono ?_; rintro e w2 ⟨rfl, hr2, hg2⟩; have hS2 := hS1.read hr2 hg2; obtain ⟨x0, x1, x2, xf⟩ := hS2.cells; have xf0 := xf 0))
      have hS3 := (hS2.set01 1).1
      clear x0 x1 x2 xf xf0 hS1 hS2 hr1 hr2 hg2 hbel1 hrb hD hDr
      obtain ⟨y0, y1, y2, yf⟩ := hS3.cells
      have yf1 := yf 1
      clear yf y2
      go_upto_region 14 with (go_at_call 31; refine (H2.out rb D _ hS3.rdr).mono ?_; rintro e w4 ⟨rfl, hr4, hg4⟩; have hS4 := hS3.read hr4 hg4; obtain ⟨x0, x1, x2, xf⟩ := hS4.cells; have xf1 := xf 1)
      have hS := (hS4.set01 (Z : Int)).2
      clear x0 x1 x2 xf xf1 hS3 hS4 hr4 hg4 y0 y1 yf1
      have hFin := HFin.out
      clear HFin
      have HBd := Lib.hid (fun W h => bad_any rb D b2 false W h)
      have HRd := Lib.hid hS.rdr
      obtain ⟨x0, x1, x2, xf⟩ := hS.cells
      have xf0 := xf 0
      have xf1 := xf 1
      have xf2 := xf 2
      clear xf
      rcases b2 with _ | ⟨x9, t9⟩
      rotate_left
      · have HNO := Lib.hid (hFin.trans (finI_left _ _ _ _ _))
        obtain ⟨q9, hq9⟩ : ∃ q, q = (x9 :: t9).length := ⟨_, rfl⟩
        have HLf := fun W h => left_any rb D (x9 :: t9) false W h
        rw [← hq9] at HLf
        replace HLf := Lib.hid HLf
        have hq0 : 0 < q9 := by rw [hq9, List.length_cons]; omega
        have hA := (hS.all3).1
        have HLD := Lib.hid (inode_load hA.row)
        have HBE := Lib.hid hA.bel
        clear hA
        clear hq9 hFin
        go_wp2_with (first | (go_at_call 32; refine (HBd.out _ HRd.out).mono ?_; rintro e w8 ⟨rfl, rfl⟩) | (go_at_call 34; refine (HLf.out _ HRd.out).mono ?_; rintro e w8 ⟨rfl, rfl⟩))
        refine bodyPost_ret (v := .tuple #[.agg #[.int .i64 0, .int .i64 0, .slice none 0 0], .int .i64 11]) ?_ rfl ⟨RdOut.none HNO.out _, HBE.out⟩
        rw [results_cell_tmp rfl]
        simp [asAddr, Result.andThen, HLD.out]
      have HLf := Lib.hid (fun W h => left_any rb D [] false W h)
      have HS := Lib.hid hS
      rcases hR : rightI 1 (Z : Int) [] with _ | _
      · have HNO := Lib.hid (hFin.trans (finI_no hR))
        have HCk := Lib.hid (fun A n c W h => check_no hR A n c W h)
        clear hFin hR hS
        go_wp2_with (first | (go_at_call 32; refine (HBd.out _ HRd.out).mono ?_; rintro e w8 ⟨rfl, rfl⟩) | (go_at_call 34; refine (HLf.out _ HRd.out).mono ?_; rintro e w8 ⟨rfl, rfl⟩) | (go_at_call 14; refine (HCk.out _ _ _ _ HS.out.es).mono ?_; rintro e w9 ⟨rfl, hb9⟩; have hS9 := HS.out.below hb9; obtain ⟨z0, z1, z2, zf⟩ := hS9.cells; have zf0 := zf 0; have zf1 := zf 1; have zf2 := zf 2; clear zf; have hA := (hS9.all3).1; have HLD := Lib.hid (inode_load hA.row); have HBE := Lib.hid hA.bel; clear hA hb9 hS9))
        refine bodyPost_ret (v := .tuple #[.agg #[.int .i64 0, .int .i64 0, .slice none 0 0], .int .i64 11]) ?_ rfl ⟨RdOut.none HNO.out _, HBE.out⟩
        rw [results_cell_tmp rfl]
        simp [asAddr, Result.andThen, HLD.out]
      · have HYE := Lib.hid (hFin.trans (finI_ok hR))
        have HCk := Lib.hid (fun A n c W h => check_ok hR A n c W h)
        clear hFin hR hS
        go_wp2_with (first | (go_at_call 32; refine (HBd.out _ HRd.out).mono ?_; rintro e w8 ⟨rfl, rfl⟩) | (go_at_call 34; refine (HLf.out _ HRd.out).mono ?_; rintro e w8 ⟨rfl, rfl⟩) | (go_at_call 14; refine (HCk.out _ _ _ _ HS.out.es).mono ?_; rintro e w9 ⟨rfl, hb9⟩; have hS9 := HS.out.below hb9; obtain ⟨z0, z1, z2, zf⟩ := hS9.cells; have zf0 := zf 0; have zf1 := zf 1; have zf2 := zf 2; clear zf; have hA := (hS9.all3).2; have HLD := Lib.hid (inode_load hA.row); have HBE := Lib.hid hA.bel; have HES := Lib.hid hA.es; clear hA hb9 hS9))
        refine bodyPost_ret (v := .tuple #[.agg #[.int .i64 1, .int .i64 (Z : Int), (.slice none 0 0)], .int .i64 0]) ?_ rfl ⟨RdOut.some HYE.out HES.out, HBE.out⟩
        rw [results_cell_tmp rfl]
        simp [asAddr, Result.andThen, HLD.out]
    · go_enter Try.func16, Try.ntmps16
      go_upto_region 3 with (first
        | (go_at_call 30; refine (HNew.out _ HX.out).mono ?_; rintro e w1 ⟨rb, D, rfl, hrb, hD, hDr, hr1, hbel1⟩; have hS1 := RS.init rfl hD hDr hr1 hbel1)
        | (go_at_call 31; refine (H1.out rb D _ hr1).mono ?_; rintro e w2 ⟨rfl, hr2, hg2⟩; have hS2 := hS1.read hr2 hg2; obtain ⟨x0, x1, x2, xf⟩ := hS2.cells; have xf0 := xf 0))
      have hS3 := (hS2.set01 1).1
      clear x0 x1 x2 xf xf0 hS1 hS2 hr1 hr2 hg2 hbel1 hrb hD hDr
      obtain ⟨y0, y1, y2, yf⟩ := hS3.cells
      have yf1 := yf 1
      clear yf y2
      go_upto_region 14 with (go_at_call 31; refine (H2.out rb D _ hS3.rdr).mono ?_; rintro e w4 ⟨rfl, hr4, hg4⟩; have hS4 := hS3.read hr4 hg4; obtain ⟨x0, x1, x2, xf⟩ := hS4.cells; have xf1 := xf 1)
      have hS := (hS4.set01 (Z : Int)).2
      clear x0 x1 x2 xf xf1 hS3 hS4 hr4 hg4 y0 y1 yf1
      have hNo : rdI bs = none := HFin.out
      clear HFin
      have hA := (hS.all3).1
      have HLD := Lib.hid (inode_load hA.row)
      have HBE := Lib.hid hA.bel
      clear hA
      have HNO := Lib.hid hNo
      have HBd := Lib.hid (fun W h => bad_any rb D b2 true W h)
      have HRd := Lib.hid hS.rdr
      obtain ⟨x0, x1, x2, xf⟩ := hS.cells
      have xf0 := xf 0
      have xf1 := xf 1
      have xf2 := xf 2
      clear xf
      clear hNo
      go_wp2_with (go_at_call 32; refine (HBd.out _ HRd.out).mono ?_; rintro e w8 ⟨rfl, rfl⟩)
      all_goals
        refine bodyPost_ret (v := .tuple #[.agg #[.int .i64 0, .int .i64 0, .slice none 0 0], .int .i64 11]) ?_ rfl ⟨RdOut.none HNO.out _, HBE.out⟩
        rw [results_cell_tmp rfl]
        simp [asAddr, Result.andThen, HLD.out]
  by_cases hk2 : K = 2
  rotate_left
  · have hk1b : ((K : Int) == 1) = false := beq_eq_false_iff_ne.2 (by omega)
    have hk2b : ((K : Int) == 2) = false := beq_eq_false_iff_ne.2 (by omega)
    have HFin : Hid (rdI bs = finI (K : Int) 0 [] q1 b1) := Lib.hid (by rw [HF.out, if_neg hk1, if_neg hk2])
    clear hk1 hk2
    rcases q1 with _ | _
    · go_enter Try.func16, Try.ntmps16
      go_upto_region 3 with (first
        | (go_at_call 30; refine (HNew.out _ HX.out).mono ?_; rintro e w1 ⟨rb, D, rfl, hrb, hD, hDr, hr1, hbel1⟩; have hS1 := RS.init rfl hD hDr hr1 hbel1)
        | (go_at_call 31; refine (H1.out rb D _ hr1).mono ?_; rintro e w2 ⟨rfl, hr2, hg2⟩; have hS2 := hS1.read hr2 hg2; obtain ⟨x0, x1, x2, xf⟩ := hS2.cells; have xf0 := xf 0))
      have hS3 := (hS2.set01 (K : Int)).1
      clear x0 x1 x2 xf xf0 hS1 hS2 hr1 hr2 hg2 hbel1 hrb hD hDr
      obtain ⟨y0, y1, y2, yf⟩ := hS3.cells
      have yf1 := yf 1
      clear yf y2
      have hS := hS3
      have hFin := HFin.out
      clear HFin
      have HBd := Lib.hid (fun W h => bad_any rb D b1 false W h)
      have HRd := Lib.hid hS.rdr
      obtain ⟨x0, x1, x2, xf⟩ := hS.cells
      have xf0 := xf 0
      have xf1 := xf 1
      have xf2 := xf 2
      clear xf
      rcases b1 with _ | ⟨x9, t9⟩
      rotate_left
      · have HNO := Lib.hid (hFin.trans (finI_left _ _ _ _ _))
        obtain ⟨q9, hq9⟩ : ∃ q, q = (x9 :: t9).length := ⟨_, rfl⟩
        have HLf := fun W h => left_any rb D (x9 :: t9) false W h
        rw [← hq9] at HLf
        replace HLf := Lib.hid HLf
        have hq0 : 0 < q9 := by rw [hq9, List.length_cons]; omega
        have hA := (hS.all3).1
        have HLD := Lib.hid (inode_load hA.row)
        have HBE := Lib.hid hA.bel
        clear hA
        clear hq9 hFin
        go_wp2_with (first | (go_at_call 32; refine (HBd.out _ HRd.out).mono ?_; rintro e w8 ⟨rfl, rfl⟩) | (go_at_call 34; refine (HLf.out _ HRd.out).mono ?_; rintro e w8 ⟨rfl, rfl⟩))
        refine bodyPost_ret (v := .tuple #[.agg #[.int .i64 0, .int .i64 0, .slice none 0 0], .int .i64 11]) ?_ rfl ⟨RdOut.none HNO.out _, HBE.out⟩
        rw [results_cell_tmp rfl]
        simp [asAddr, Result.andThen, HLD.out]
      have HLf := Lib.hid (fun W h => left_any rb D [] false W h)
      have HS := Lib.hid hS
      rcases hR : rightI (K : Int) 0 [] with _ | _
      · have HNO := Lib.hid (hFin.trans (finI_no hR))
        have HCk := Lib.hid (fun A n c W h => check_no hR A n c W h)
        clear hFin hR hS
        go_wp2_with (first | (go_at_call 32; refine (HBd.out _ HRd.out).mono ?_; rintro e w8 ⟨rfl, rfl⟩) | (go_at_call 34; refine (HLf.out _ HRd.out).mono ?_; rintro e w8 ⟨rfl, rfl⟩) | (go_at_call 14; refine (HCk.out _ _ _ _ HS.out.es).mono ?_; rintro e w9 ⟨rfl, hb9⟩; have hS9 := HS.out.below hb9; obtain ⟨z0, z1, z2, zf⟩ := hS9.cells; have zf0 := zf 0; have zf1 := zf 1; have zf2 := zf 2; clear zf; have hA := (hS9.all3).1; have HLD := Lib.hid (inode_load hA.row); have HBE := Lib.hid hA.bel; clear hA hb9 hS9))
        refine bodyPost_ret (v := .tuple #[.agg #[.int .i64 0, .int .i64 0, .slice none 0 0], .int .i64 11]) ?_ rfl ⟨RdOut.none HNO.out _, HBE.out⟩
        rw [results_cell_tmp rfl]
        simp [asAddr, Result.andThen, HLD.out]
      · have HYE := Lib.hid (hFin.trans (finI_ok hR))
        have HCk := Lib.hid (fun A n c W h => check_ok hR A n c W h)
        clear hFin hR hS
        go_wp2_with (first | (go_at_call 32; refine (HBd.out _ HRd.out).mono ?_; rintro e w8 ⟨rfl, rfl⟩) | (go_at_call 34; refine (HLf.out _ HRd.out).mono ?_; rintro e w8 ⟨rfl, rfl⟩) | (go_at_call 14; refine (HCk.out _ _ _ _ HS.out.es).mono ?_; rintro e w9 ⟨rfl, hb9⟩; have hS9 := HS.out.below hb9; obtain ⟨z0, z1, z2, zf⟩ := hS9.cells; have zf0 := zf 0; have zf1 := zf 1; have zf2 := zf 2; clear zf; have hA := (hS9.all3).2; have HLD := Lib.hid (inode_load hA.row); have HBE := Lib.hid hA.bel; have HES := Lib.hid hA.es; clear hA hb9 hS9))
        refine bodyPost_ret (v := .tuple #[.agg #[.int .i64 (K : Int), .int .i64 0, (.slice none 0 0)], .int .i64 0]) ?_ rfl ⟨RdOut.some HYE.out HES.out, HBE.out⟩
        rw [results_cell_tmp rfl]
        simp [asAddr, Result.andThen, HLD.out]
    · go_enter Try.func16, Try.ntmps16
      go_upto_region 3 with (first
        | (go_at_call 30; refine (HNew.out _ HX.out).mono ?_; rintro e w1 ⟨rb, D, rfl, hrb, hD, hDr, hr1, hbel1⟩; have hS1 := RS.init rfl hD hDr hr1 hbel1)
        | (go_at_call 31; refine (H1.out rb D _ hr1).mono ?_; rintro e w2 ⟨rfl, hr2, hg2⟩; have hS2 := hS1.read hr2 hg2; obtain ⟨x0, x1, x2, xf⟩ := hS2.cells; have xf0 := xf 0))
      have hS3 := (hS2.set01 (K : Int)).1
      clear x0 x1 x2 xf xf0 hS1 hS2 hr1 hr2 hg2 hbel1 hrb hD hDr
      obtain ⟨y0, y1, y2, yf⟩ := hS3.cells
      have yf1 := yf 1
      clear yf y2
      have hS := hS3
      have hNo : rdI bs = none := HFin.out
      clear HFin
      have hA := (hS.all3).1
      have HLD := Lib.hid (inode_load hA.row)
      have HBE := Lib.hid hA.bel
      clear hA
      have HNO := Lib.hid hNo
      have HBd := Lib.hid (fun W h => bad_any rb D b1 true W h)
      have HRd := Lib.hid hS.rdr
      obtain ⟨x0, x1, x2, xf⟩ := hS.cells
      have xf0 := xf 0
      have xf1 := xf 1
      have xf2 := xf 2
      clear xf
      clear hNo
      go_wp2_with (go_at_call 32; refine (HBd.out _ HRd.out).mono ?_; rintro e w8 ⟨rfl, rfl⟩)
      all_goals
        refine bodyPost_ret (v := .tuple #[.agg #[.int .i64 0, .int .i64 0, .slice none 0 0], .int .i64 11]) ?_ rfl ⟨RdOut.none HNO.out _, HBE.out⟩
        rw [results_cell_tmp rfl]
        simp [asAddr, Result.andThen, HLD.out]
  subst hk2
  clear hk1
  obtain ⟨cnt, hcnt⟩ : ∃ K, K = numV (rdTake b1 1) := ⟨_, rfl⟩
  obtain ⟨b2, hb2⟩ : ∃ b, b = rdLeft b1 1 := ⟨_, rfl⟩
  obtain ⟨q2, hq2⟩ : ∃ b, b = rdBad b1 q1 1 := ⟨_, rfl⟩
  have H2 := Lib.hid (fun b D W h => rnum1 b D b1 q1 W h hl1 cnt b2 q2 hcnt hb2 hq2)
  have hl2 : b2.length ≤ 1000 := by rw [hb2]; exact Nat.le_trans (rdLeft_le b1 1) hl1
  have hc256 : cnt < 256 := by rw [hcnt]; exact num1_lt b1
  have hcw := small_wrap cnt (by omega)
  have hBad : q2 = true → rdI bs = none := fun h => by rw [HF.out, if_neg (by decide), if_pos rfl, ← hq2, if_pos h]
  have hDir : q2 = false → ∀ k bs' bad es, Mid cnt k b2 bs' bad es → (bad = false → k = 0) → rdI bs = finI 2 0 es bad bs' := fun h k bs' bad es hM hk => by
    refine rdI_dir (k := k) HK.out.symm ?_ ?_ hk
    · rw [← HB1.out, ← HQ1.out, ← hq2]; exact h
    · rw [← HB1.out, ← hcnt, ← hb2]; exact hM
  have HBad := Lib.hid hBad
  have HDir := Lib.hid hDir
  clear hcnt hb2 hq2 hBad hDir
  go_enter Try.func16, Try.ntmps16
  go_upto_region 3 with (first
    | (go_at_call 30; refine (HNew.out _ HX.out).mono ?_; rintro e w1 ⟨rb, D, rfl, hrb, hD, hDr, hr1, hbel1⟩; have hS1 := RS.init rfl hD hDr hr1 hbel1)
    | (go_at_call 31; refine (H1.out rb D _ hr1).mono ?_; rintro e w2 ⟨rfl, hr2, hg2⟩; have hS2 := hS1.read hr2 hg2; obtain ⟨x0, x1, x2, xf⟩ := hS2.cells; have xf0 := xf 0))
  have hS3 := (hS2.set01 2).1
  clear x0 x1 x2 xf xf0 hS1 hS2 hr1 hr2 hg2 hbel1 hrb hD hDr
  obtain ⟨y0, y1, y2, yf⟩ := hS3.cells
  have yf1 := yf 1
  clear yf y2
  go_upto_region 8 with (go_at_call 31; refine (H2.out rb D _ hS3.rdr).mono ?_; rintro e w4 ⟨rfl, hr4, hg4⟩; have hS4 := hS3.read hr4 hg4)
  go_loopw [5] (fun v5 wr => ∃ (k : Nat) (bs' : List UInt8) (bad' : Bool) (A9 : Option Addr) (j c9 : Nat) (es : List (List UInt8 × Int)), v5 = .int .i64 (k : Int) ∧ RS w wr w.heap.size rb D w1.heap.size bs' bad' 2 0 (.slice A9 j c9) j es ∧ (bad' = true → rdI bs = none) ∧ (bad' = false → q2 = false ∧ Mid cnt k b2 bs' false es) ∧ bs'.length ≤ 1000 ∧ j + k ≤ 256) (fun v5 _ => (intOf v5).toNat)
  case atStart => exact ⟨cnt, b2, q2, none, 0, 0, [], rfl, hS4, HBad.out, fun h => ⟨h, Mid.start _ _⟩, hl2, by omega⟩
  case round =>
    obtain ⟨k, bs', bad', A9, j, c9, es, rfl, hS, hno, hmid, hl', hjk⟩ := hrel
    rcases bad' with _ | _
    rotate_left
    · have hNo := hno rfl
      clear hno hmid
      have hA := (hS.all3).1
      have HLD := Lib.hid (inode_load hA.row)
      have HBE := Lib.hid hA.bel
      clear hA
      have HNO := Lib.hid hNo
      have HBd := Lib.hid (fun W h => bad_any rb D bs' true W h)
      have HRd := Lib.hid hS.rdr
      obtain ⟨x0, x1, x2, xf⟩ := hS.cells
      have xf0 := xf 0
      have xf1 := xf 1
      have xf2 := xf 2
      clear xf
      clear hNo
      go_wp2_with (go_at_call 32; refine (HBd.out _ HRd.out).mono ?_; rintro e w8 ⟨rfl, rfl⟩)
      all_goals
        refine bodyPost_ret (v := .tuple #[.agg #[.int .i64 0, .int .i64 0, .slice none 0 0], .int .i64 11]) ?_ rfl ⟨RdOut.none HNO.out _, HBE.out⟩
        rw [results_cell_tmp rfl]
        simp [asAddr, Result.andThen, HLD.out]
    obtain ⟨hq2f, hM⟩ := hmid rfl
    clear hno hmid
    rcases k with _ | k
    · have hFin := HDir.out hq2f 0 bs' false es hM (fun _ => rfl)
      clear hM
      have HBd := Lib.hid (fun W h => bad_any rb D bs' false W h)
      have HRd := Lib.hid hS.rdr
      obtain ⟨x0, x1, x2, xf⟩ := hS.cells
      have xf0 := xf 0
      have xf1 := xf 1
      have xf2 := xf 2
      clear xf
      rcases bs' with _ | ⟨x9, t9⟩
      rotate_left
      · have HNO := Lib.hid (hFin.trans (finI_left _ _ _ _ _))
        obtain ⟨q9, hq9⟩ : ∃ q, q = (x9 :: t9).length := ⟨_, rfl⟩
        have HLf := fun W h => left_any rb D (x9 :: t9) false W h
        rw [← hq9] at HLf
        replace HLf := Lib.hid HLf
        have hq0 : 0 < q9 := by rw [hq9, List.length_cons]; omega
        have hA := (hS.all3).1
        have HLD := Lib.hid (inode_load hA.row)
        have HBE := Lib.hid hA.bel
        clear hA
        clear hq9 hFin
        go_wp2_with (first | (go_at_call 32; refine (HBd.out _ HRd.out).mono ?_; rintro e w8 ⟨rfl, rfl⟩) | (go_at_call 34; refine (HLf.out _ HRd.out).mono ?_; rintro e w8 ⟨rfl, rfl⟩))
        refine bodyPost_ret (v := .tuple #[.agg #[.int .i64 0, .int .i64 0, .slice none 0 0], .int .i64 11]) ?_ rfl ⟨RdOut.none HNO.out _, HBE.out⟩
        rw [results_cell_tmp rfl]
        simp [asAddr, Result.andThen, HLD.out]
      have HLf := Lib.hid (fun W h => left_any rb D [] false W h)
      have HS := Lib.hid hS
      rcases hR : rightI 2 0 es with _ | _
      · have HNO := Lib.hid (hFin.trans (finI_no hR))
        have HCk := Lib.hid (fun A n c W h => check_no hR A n c W h)
        clear hFin hR hS
        go_wp2_with (first | (go_at_call 32; refine (HBd.out _ HRd.out).mono ?_; rintro e w8 ⟨rfl, rfl⟩) | (go_at_call 34; refine (HLf.out _ HRd.out).mono ?_; rintro e w8 ⟨rfl, rfl⟩) | (go_at_call 14; refine (HCk.out _ _ _ _ HS.out.es).mono ?_; rintro e w9 ⟨rfl, hb9⟩; have hS9 := HS.out.below hb9; obtain ⟨z0, z1, z2, zf⟩ := hS9.cells; have zf0 := zf 0; have zf1 := zf 1; have zf2 := zf 2; clear zf; have hA := (hS9.all3).1; have HLD := Lib.hid (inode_load hA.row); have HBE := Lib.hid hA.bel; clear hA hb9 hS9))
        refine bodyPost_ret (v := .tuple #[.agg #[.int .i64 0, .int .i64 0, .slice none 0 0], .int .i64 11]) ?_ rfl ⟨RdOut.none HNO.out _, HBE.out⟩
        rw [results_cell_tmp rfl]
        simp [asAddr, Result.andThen, HLD.out]
      · have HYE := Lib.hid (hFin.trans (finI_ok hR))
        have HCk := Lib.hid (fun A n c W h => check_ok hR A n c W h)
        clear hFin hR hS
        go_wp2_with (first | (go_at_call 32; refine (HBd.out _ HRd.out).mono ?_; rintro e w8 ⟨rfl, rfl⟩) | (go_at_call 34; refine (HLf.out _ HRd.out).mono ?_; rintro e w8 ⟨rfl, rfl⟩) | (go_at_call 14; refine (HCk.out _ _ _ _ HS.out.es).mono ?_; rintro e w9 ⟨rfl, hb9⟩; have hS9 := HS.out.below hb9; obtain ⟨z0, z1, z2, zf⟩ := hS9.cells; have zf0 := zf 0; have zf1 := zf 1; have zf2 := zf 2; clear zf; have hA := (hS9.all3).2; have HLD := Lib.hid (inode_load hA.row); have HBE := Lib.hid hA.bel; have HES := Lib.hid hA.es; clear hA hb9 hS9))
        refine bodyPost_ret (v := .tuple #[.agg #[.int .i64 2, .int .i64 0, (.slice A9 j c9)], .int .i64 0]) ?_ rfl ⟨RdOut.some HYE.out HES.out, HBE.out⟩
        rw [results_cell_tmp rfl]
        simp [asAddr, Result.andThen, HLD.out]
    have hM2 := hM.step
    obtain ⟨y, hy⟩ : ∃ K, K = numV (rdTake bs' 1) := ⟨_, rfl⟩
    obtain ⟨d1, hd1⟩ : ∃ b, b = rdLeft bs' 1 := ⟨_, rfl⟩
    obtain ⟨p1, hp1⟩ : ∃ b, b = rdBad bs' false 1 := ⟨_, rfl⟩
    rw [← hy, ← hd1, ← hp1] at hM2
    obtain ⟨l, hl9⟩ : ∃ K, K = numV (rdTake d1 1) := ⟨_, rfl⟩
    obtain ⟨d2, hd2⟩ : ∃ b, b = rdLeft d1 1 := ⟨_, rfl⟩
    obtain ⟨p2, hp2⟩ : ∃ b, b = rdBad d1 p1 1 := ⟨_, rfl⟩
    rw [← hl9, ← hd2, ← hp2] at hM2
    obtain ⟨nm, hnm⟩ : ∃ K, K = rdTake d2 (l : Int) := ⟨_, rfl⟩
    obtain ⟨d3, hd3⟩ : ∃ b, b = rdLeft d2 (l : Int) := ⟨_, rfl⟩
    obtain ⟨p3, hp3⟩ : ∃ b, b = rdBad d2 p2 (l : Int) := ⟨_, rfl⟩
    rw [← hnm, ← hd3, ← hp3] at hM2
    have hld1 : d1.length ≤ 1000 := by rw [hd1]; exact Nat.le_trans (rdLeft_le _ 1) hl'
    have hld2 : d2.length ≤ 1000 := by rw [hd2]; exact Nat.le_trans (rdLeft_le _ 1) hld1
    have hld3 : d3.length ≤ 1000 := by rw [hd3]; exact Nat.le_trans (rdLeft_le _ _) hld2
    have hyw := small_wrap y (by rw [hy]; exact Nat.lt_of_lt_of_le (num1_lt _) (by decide))
    have hlw := small_wrap l (by rw [hl9]; exact Nat.lt_of_lt_of_le (num1_lt _) (by decide))
    have HA := Lib.hid (fun W h => rnum1 rb D bs' false W h hl' y d1 p1 hy hd1 hp1)
    have HB := Lib.hid (fun W h => rnum1 rb D d1 p1 W h hld1 l d2 p2 hl9 hd2 hp2)
    have HC := Lib.hid (fun W h => rbytesN rb D d2 p2 l W h hld2 nm d3 p3 hnm hd3 hp3)
    have HBd := Lib.hid (fun W h => bad_any rb D bs' false W h)
    have HNx : Hid ((p3 = true → rdI bs = none) ∧ (p3 = false → q2 = false ∧ Mid cnt k b2 d3 false (es ++ [(nm, (y : Int))]))) := Lib.hid ⟨fun h => by subst h; exact HDir.out hq2f k d3 true _ hM2 (fun h => (by cases h)), fun h => by subst h; exact ⟨hq2f, hM2⟩⟩
    have hk0 : 0 < k + 1 := Nat.succ_pos k
    obtain ⟨k9, hk9⟩ : ∃ q, q = k + 1 := ⟨_, rfl⟩
    rw [← hk9] at hk0 ⊢
    have HK9 := Lib.hid hk9
    have HL3 := Lib.hid hld3
    have HJK := Lib.hid hjk
    clear hy hd1 hp1 hl9 hd2 hp2 hnm hd3 hp3 hld1 hld2 hld3 hM hM2 hk9 hjk hl'
    have HS0 := Lib.hid hS
    have HRd := Lib.hid hS.rdr
    have tok : True := trivial
    clear hS
    go_upto_region 11 with (first
      | (go_at_call 32; refine (HBd.out _ HRd.out).mono ?_; rintro e w8 ⟨rfl, rfl⟩)
      | (go_at_call 31; refine (HA.out _ HRd.out).mono ?_; rintro e w5 ⟨rfl, hr5, hg5⟩; have hS5 := HS0.out.read hr5 hg5))
    have hS6 := hS5.below ((Below.refl _ _).alloc (Nat.le_refl _) (.cells #[.string ByteArray.empty, .int .i64 (y : Int)] 46))
    obtain ⟨hB5, hown5, hrb5, hrB⟩ := hS5.own_lt
    have he6 : (w5.alloc (.cells #[.string ByteArray.empty, .int .i64 (y : Int)] 46)).heap[w5.heap.size]? = some (.cells #[.string ByteArray.empty, .int .i64 (y : Int)] 46 (0, 0)) := heap_alloc_new w5 _
    go_upto_region 13 with (first
      | (go_at_call 31; refine (HB.out _ hS6.rdr).mono ?_; rintro e w6 ⟨rfl, hr6, hg6⟩; have hS7 := hS6.read hr6 hg6; have he7 := (hg6.block w5.heap.size (by simp) (by simp; omega)).trans he6)
      | (go_at_call 33; refine (HC.out _ hS7.rdr).mono ?_; rintro e w7 ⟨v7, n7, rfl, ho7, hr7, hg7⟩; have hS8 := hS7.read hr7 hg7; have he8 := (hg7.block w5.heap.size (Nat.lt_of_lt_of_le (by simp) hg6.size) (by simp; omega)).trans he7; obtain ⟨A7, c7, rfl, _, _⟩ := own_form ho7; have hstr := run_str (own_bs ho7).2; have hec := cell_of he8 0; have hef := frozen_of he8 0))
    have hS9 := hS8.setE (eb := w5.heap.size) hB5 hown5 0 (.string (str nm))
    have he9 := Go.Joins.block_setCell he8 (i := 0) (Value.string (str nm))
    obtain ⟨x0, x1, x2, xf⟩ := hS9.cells
    have hc0 := cell_of he9 0
    have hc1 := cell_of he9 1
    clear x0 x1
    have hal := (Below.refl (w7.setCell ⟨w5.heap.size, 0, none⟩ (.string (str nm))).heap.size (w7.setCell ⟨w5.heap.size, 0, none⟩ (.string (str nm)))).alloc (Nat.le_refl _) (.cells #[.string (str nm), .int .i64 (y : Int)] 46)
    have hS10 := hS9.below hal
    have HS10 := Lib.hid hS10
    have hat9 := At.new (w7.setCell ⟨w5.heap.size, 0, none⟩ (.string (str nm))) #[.string (str nm), .int .i64 (y : Int)] 46 (0, 0)
    rw [show (w7.setCell ⟨w5.heap.size, 0, none⟩ (.string (str nm))).heap.size = w7.heap.size from by simp] at hat9
    have HAT := Lib.hid hat9
    clear hat9 hS10 hS9 hS8 hS7 hS6 hS5 he6 he7 he8 he9 hal hr5 hr6 hr7 hg5 hg6 hg7 xf hec hef hstr ho7
    go_upto_region 9 with (at_builtin; go_must (refine wp_append w1.heap.size rfl _ _ 26 46 (.agg #[.string ByteArray.empty, .int .i64 0]) 2 24 rfl Try.underlying26 info_entry rfl (by decide) (by decide) (.slice A9 j c9) j (es.flatMap encE) _ 1 1 [.string (str nm), .int .i64 (y : Int)] rfl rfl HS10.out.own HAT.out rfl (entry_one nm _) HS10.out.own_lt.1 (by have := HJK.out; omega) ?_); intro v1 w12 ho1 hg1 ha1; obtain ⟨z2, zf2⟩ := HS10.out.cells_grown hg1; have hS11 := HS10.out.app (es1 := es ++ [(nm, (y : Int))]) (by rw [encE_snoc]; exact ho1) hg1; obtain ⟨A12, c12, rfl, _, _⟩ := own_form ho1; have HS11 := Lib.hid hS11; clear hS11 ho1 hg1 ha1)
    obtain ⟨hkw, hkw2⟩ := cnt_wrap k9 k HK9.out (by have := HJK.out; omega)
    go_wp2_with fail
    go_roundw
    case rel => exact ⟨k, d3, p3, A12, j + 1, c12, es ++ [(nm, (y : Int))], by go_num, HS11.out, HNx.out.1, HNx.out.2, HL3.out, by have := HJK.out; omega⟩
    case measure => have := HK9.out; simp [intOf]; omega
end Go.Proofs.YteghldapcfkekaaK

import Derived.Test.YtljdfhckllncoaaKFrmI
namespace Go.Proofs.YtljdfhckllncoaaK
open Go.RowKit
set_option linter.unusedSimpArgs false
set_option linter.unusedVariables false
/-! FrameReads. -/
theorem rmends_call (k : UInt8) (body : List UInt8) (T : List UInt8) (hl : T.length = 258) (m E : Nat) (m' E' : Int) (hm : m' = (m : Int)) (hE : E' = (E : Int)) (kn : Int) (hk : kn = (k.toNat : Int)) (h : frR T = (k, body, m, E)) (w : World) :
    Calls Try.prog 18 #[.agg (T.map encB).toArray] w fun e w' => ∃ A n c, e = .returned (.tuple #[.int .u8 kn, .slice A n c, .int .i64 m', .int .i64 E']) ∧ Bs w' (.slice A n c) body ∧ Below w.heap.size w w' := by
  have h2 := rread_any T hl w
  rw [h] at h2
  refine h2.mono ?_
  rintro e w' ⟨ho, hb⟩
  obtain ⟨A, n, c, he, hB⟩ := frOut_val ho
  exact ⟨A, n, c, by rw [he, hm, hE, hk], hB, hb⟩
theorem rd_cases (i : Nat) (h : i < 28) : i = 0 ∨ i = 1 ∨ i = 2 ∨ i = 3 ∨ i = 4 ∨ i = 5 ∨ i = 6 ∨ i = 7 ∨ i = 8 ∨ i = 9 ∨ i = 10 ∨ i = 11 ∨ i = 12 ∨ i = 13 ∨ i = 14 ∨ i = 15 ∨ i = 16 ∨ i = 17 ∨ i = 18 ∨ i = 19 ∨ i = 20 ∨ i = 21 ∨ i = 22 ∨ i = 23 ∨ i = 24 ∨ i = 25 ∨ i = 26 ∨ i = 27 := by omega
def rdF (K M E : Int) (body : List UInt8) (P : List Value) (z : Bool) : Nat → Value → World → Prop
  | 0, v, _ => v = .int .u8 K
  | 1, v, _ => v = .int .u8 K
  | 2, v, _ => v = .bool true
  | 3, v, _ => v = .bool true
  | 4, v, w => BsV body v w
  | 5, v, _ => v = .string (str body)
  | 6, v, w => BsV body v w
  | 7, v, _ => v = .string (str body)
  | 8, v, _ => v = .bool true
  | 9, v, _ => v = .bool true
  | 10, v, _ => v = .bool true
  | 11, v, _ => v = .int .i64 M
  | 12, v, _ => v = .int .i64 M
  | 13, v, _ => v = .bool true
  | 14, v, _ => v = .bool true
  | 15, v, _ => v = .bool true
  | 16, v, _ => v = .int .i64 E
  | 17, v, _ => v = .int .i64 E
  | 18, v, _ => v = .bool true
  | 19, v, _ => v = .bool true
  | 20, v, _ => v = .bool true
  | 21, v, _ => v = .agg P.toArray
  | 22, v, _ => v = .bool z
  | 23, v, _ => v = .agg P.toArray
  | 24, v, _ => v = .bool z
  | 25, v, _ => v = .bool true
  | 26, v, _ => v = .bool true
  | 27, v, _ => v = .bool true
  | _, _, _ => False
theorem rdF_below {K M E : Int} {body : List UInt8} {P : List Value} {z : Bool} (i : Nat) (v : Value) (w w' : World) (hb : Below w.heap.size w w') (h : rdF K M E body P z i v w) : rdF K M E body P z i v w' := by
  match i with
  | 4 => exact BsV.below h hb
  | 6 => exact BsV.below h hb
  | 0 | 1 | 2 | 3 | 5 | 7 | 8 | 9 | 10 | 11 | 12 | 13 => exact h
  | 14 | 15 | 16 | 17 | 18 | 19 | 20 | 21 | 22 | 23 | 24 | 25 => exact h
  | 26 | 27 => exact h
  | n + 28 => exact h
set_option maxRecDepth 100000 in
set_option maxHeartbeats 8000000 in
theorem reads_walk (bs : List UInt8) (hl : bs.length = 258) (w : World) :
    Calls Try.prog 5 #[.agg (bs.map encB).toArray] w fun e w' => e = .returned (.bool true) ∧ Below w.heap.size w w' := by
  obtain ⟨R, hR⟩ : ∃ R, R = frR bs := ⟨_, rfl⟩
  obtain ⟨k, body, m, e0⟩ := R
  have HRA := Lib.hid (fun W => mends_call k body bs hl m e0 m e0 rfl rfl k.toNat rfl hR.symm W)
  have HRB := Lib.hid (fun W => rmends_call k body bs hl m e0 m e0 rfl rfl k.toNat rfl hR.symm W)
  have HBA := Lib.hid (fun W => blank_any bs hl W)
  have HBB := Lib.hid (fun W => rblank_any bs hl W)
  obtain ⟨K, hK⟩ : ∃ K, K = (k.toNat : Int) := ⟨_, rfl⟩
  obtain ⟨M, hM⟩ : ∃ K, K = (m : Int) := ⟨_, rfl⟩
  obtain ⟨E, hE⟩ : ∃ K, K = (e0 : Int) := ⟨_, rfl⟩
  obtain ⟨z, hz⟩ : ∃ z, z = blankB bs := ⟨_, rfl⟩
  rw [← hK, ← hM, ← hE] at HRA HRB
  rw [← hz] at HBA HBB
  obtain ⟨P, hP⟩ : ∃ P, P = bs.map encB := ⟨_, rfl⟩
  rw [← hP] at HRA HRB HBA HBB ⊢
  have hPl : P.length = 258 := by rw [hP, List.length_map]; exact hl
  have HI := Lib.hid (show (Try.prog.info? 26).map (·.size) = some P.length by rw [hPl]; exact page_info)
  clear hP hPl hK hM hE hz hR hl
  obtain ⟨W, hW⟩ : ∃ W, W = w.alloc (.cells P.toArray 26) := ⟨_, rfl⟩
  obtain ⟨xb, hxb⟩ : ∃ pb, pb = w.heap.size := ⟨_, rfl⟩
  have hR0 : Rows w [(xb, P)] W := by rw [hW, hxb]; exact (Rows.nil w).newL P _
  go_enter Try.func5, Try.ntmps5
  go_upto_region 1 with fail
  rw [← hW]
  simp only [← hxb]
  clear hW hxb
  go_upto_region 3 with (go_at_call 13; refine (frame_speaks _).mono ?_; rintro e w1 ⟨rfl, hb1⟩)
  have hR1 := hR0.go hb1
  have hA1 := hR1.get (b := xb) (L := P) (by simp)
  refine wp_region_lit ?_
  refine wpList_load_mid rfl 26 _ rfl xb 0 rfl P _ hA1.1 Try.underlying26 rfl HI.out ?_
  go_upto_region 4 with (go_at_call 16; refine (HRA.out _).mono ?_; rintro e w2 ⟨A1, n1, c1, rfl, hB1, hb2⟩)
  have hR2 := hR1.go hb2
  have hA2 := hR2.get (b := xb) (L := P) (by simp)
  refine wp_region_lit ?_
  refine wpList_load_mid rfl 26 _ rfl xb 0 rfl P _ hA2.1 Try.underlying26 rfl HI.out ?_
  go_upto_region 5 with (go_at_call 18; refine (HRB.out _).mono ?_; rintro e w4 ⟨A2, n2, c2, rfl, hB2, hb4⟩)
  have hR4 := hR2.go hb4
  replace hB1 := hB1.below hb4
  clear hR0 hR1 hR2 hA1 hA2 hb1 hb2 hb4 HRA HRB
  refine wp_region_front 28 [27, 28, 29, 30, 31, 32, 33, 34, 35, 36, 37, 38, 39, 40, 41, 42, 43, 44, 45, 46, 47, 48, 49, 50, 51, 52, 53, 2] 0 #[true, true, true, true, true, true, true, true, true, true, true, true, true, true, true, true, true, true, true, true, true, true, true, true, true, true, true, true] (fun W => Rows w [(xb, P)] W ∧ Bs W (.slice A1 n1 c1) body ∧ Bs W (.slice A2 n2 c2) body) (rdF K M E body P z) yesP (by kernel_rfl) (by kernel_rfl) (by kernel_rfl) (by kernel_rfl) (by kernel_rfl) (fun _ _ hb h => ⟨h.1.go hb, h.2.1.below hb, h.2.2.below hb⟩) rdF_below ⟨hR4.drew, hB1.below (Below.refl _ _).drew, hB2.below (Below.refl _ _).drew⟩ ?_ ?_
  · intro i hi s w9 hs hB hd
    have s1 : s 1 = .pointer (some ⟨xb, 0, none⟩) := hs 1 (by decide)
    have s3 : s 3 = .int .u8 K := hs 3 (by decide)
    have s4 : s 4 = .slice A1 n1 c1 := hs 4 (by decide)
    have s5 : s 5 = .int .i64 M := hs 5 (by decide)
    have s6 : s 6 = .int .i64 E := hs 6 (by decide)
    have s7 : s 7 = .int .u8 K := hs 7 (by decide)
    have s8 : s 8 = .slice A2 n2 c2 := hs 8 (by decide)
    have s9 : s 9 = .int .i64 M := hs 9 (by decide)
    have s10 : s 10 = .int .i64 E := hs 10 (by decide)
    obtain rfl | rfl | rfl | rfl | rfl | rfl | rfl | rfl | rfl | rfl | rfl | rfl | rfl | rfl | rfl | rfl | rfl | rfl | rfl | rfl | rfl | rfl | rfl | rfl | rfl | rfl | rfl | rfl : i = 0 ∨ i = 1 ∨ i = 2 ∨ i = 3 ∨ i = 4 ∨ i = 5 ∨ i = 6 ∨ i = 7 ∨ i = 8 ∨ i = 9 ∨ i = 10 ∨ i = 11 ∨ i = 12 ∨ i = 13 ∨ i = 14 ∨ i = 15 ∨ i = 16 ∨ i = 17 ∨ i = 18 ∨ i = 19 ∨ i = 20 ∨ i = 21 ∨ i = 22 ∨ i = 23 ∨ i = 24 ∨ i = 25 ∨ i = 26 ∨ i = 27 := rd_cases i hi
    · exact stepG_plain (by rfl) (stepS_move _ rfl ⟨Below.refl _ _, s3, fun j _ _ u _ => ⟨trivial, trivial⟩⟩)
    · exact stepG_plain (by rfl) (stepS_move _ rfl ⟨Below.refl _ _, s7, fun j _ _ u _ => ⟨trivial, trivial⟩⟩)
    · have h0 : s 27 = .int .u8 K := hd 0 (by decide +kernel)
      have h1 : s 28 = .int .u8 K := hd 1 (by decide +kernel)
      refine stepG_plain (by rfl) (stepS_run (v := .bool true) ?_ ⟨Below.refl _ _, rfl, fun j _ _ u _ => ⟨trivial, trivial⟩⟩)
      simp [execOp, evS, h0, h1, Result.andThen, go_sem]
    · have h2 : s 29 = .bool true := hd 2 (by decide +kernel)
      exact stepG_plain (by rfl) (stepS_move _ rfl ⟨Below.refl _ _, h2, fun j _ _ u _ => ⟨trivial, trivial⟩⟩)
    · have h3 : s 30 = .bool true := hd 3 (by decide +kernel)
      exact stepG_struck (b := true) (g := 3) (by rfl) h3 (stepS_move _ rfl ⟨Below.refl _ _, by show BsV body (s 4) w9; rw [s4]; exact ⟨_, _, _, rfl, hB.2.1⟩, fun j _ _ u _ => ⟨trivial, trivial⟩⟩)
    · have h3 : s 30 = .bool true := hd 3 (by decide +kernel)
      obtain ⟨A4, n4, c4, h4, b4⟩ : BsV body (s 31) w9 := hd 4 (by decide +kernel)
      refine stepG_struck (b := true) (g := 3) (by rfl) h3 (stepS_run (v := .string (str body)) ?_ ⟨Below.refl _ _, rfl, fun j _ _ u _ => ⟨trivial, trivial⟩⟩)
      simp [execOp, evS, h4, run_str b4, Result.andThen, go_sem]
    · have h3 : s 30 = .bool true := hd 3 (by decide +kernel)
      exact stepG_struck (b := true) (g := 3) (by rfl) h3 (stepS_move _ rfl ⟨Below.refl _ _, by show BsV body (s 8) w9; rw [s8]; exact ⟨_, _, _, rfl, hB.2.2⟩, fun j _ _ u _ => ⟨trivial, trivial⟩⟩)
    · have h3 : s 30 = .bool true := hd 3 (by decide +kernel)
      obtain ⟨A6, n6, c6, h6, b6⟩ : BsV body (s 33) w9 := hd 6 (by decide +kernel)
      refine stepG_struck (b := true) (g := 3) (by rfl) h3 (stepS_run (v := .string (str body)) ?_ ⟨Below.refl _ _, rfl, fun j _ _ u _ => ⟨trivial, trivial⟩⟩)
      simp [execOp, evS, h6, run_str b6, Result.andThen, go_sem]
    · have h3 : s 30 = .bool true := hd 3 (by decide +kernel)
      have h5 : s 32 = .string (str body) := hd 5 (by decide +kernel)
      have h7 : s 34 = .string (str body) := hd 7 (by decide +kernel)
      refine stepG_struck (b := true) (g := 3) (by rfl) h3 (stepS_run (v := .bool true) ?_ ⟨Below.refl _ _, rfl, fun j _ _ u _ => ⟨trivial, trivial⟩⟩)
      simp [execOp, evS, h5, h7, Result.andThen, go_sem]
    · have h3 : s 30 = .bool true := hd 3 (by decide +kernel)
      have h8 : s 35 = .bool true := hd 8 (by decide +kernel)
      refine stepG_plain (by rfl) (stepS_run (v := .bool true) ?_ ⟨Below.refl _ _, rfl, fun j _ _ u _ => ⟨trivial, trivial⟩⟩)
      simp [execOp, evS, h3, h8, Result.andThen, go_sem]
    · have h9 : s 36 = .bool true := hd 9 (by decide +kernel)
      exact stepG_plain (by rfl) (stepS_move _ rfl ⟨Below.refl _ _, h9, fun j _ _ u _ => ⟨trivial, trivial⟩⟩)
    · have h10 : s 37 = .bool true := hd 10 (by decide +kernel)
      exact stepG_struck (b := true) (g := 10) (by rfl) h10 (stepS_move _ rfl ⟨Below.refl _ _, s5, fun j _ _ u _ => ⟨trivial, trivial⟩⟩)
    · have h10 : s 37 = .bool true := hd 10 (by decide +kernel)
      exact stepG_struck (b := true) (g := 10) (by rfl) h10 (stepS_move _ rfl ⟨Below.refl _ _, s9, fun j _ _ u _ => ⟨trivial, trivial⟩⟩)
    · have h10 : s 37 = .bool true := hd 10 (by decide +kernel)
      have h11 : s 38 = .int .i64 M := hd 11 (by decide +kernel)
      have h12 : s 39 = .int .i64 M := hd 12 (by decide +kernel)
      refine stepG_struck (b := true) (g := 10) (by rfl) h10 (stepS_run (v := .bool true) ?_ ⟨Below.refl _ _, rfl, fun j _ _ u _ => ⟨trivial, trivial⟩⟩)
      simp [execOp, evS, h11, h12, Result.andThen, go_sem]
    · have h10 : s 37 = .bool true := hd 10 (by decide +kernel)
      have h13 : s 40 = .bool true := hd 13 (by decide +kernel)
      refine stepG_plain (by rfl) (stepS_run (v := .bool true) ?_ ⟨Below.refl _ _, rfl, fun j _ _ u _ => ⟨trivial, trivial⟩⟩)
      simp [execOp, evS, h10, h13, Result.andThen, go_sem]
    · have h14 : s 41 = .bool true := hd 14 (by decide +kernel)
      exact stepG_plain (by rfl) (stepS_move _ rfl ⟨Below.refl _ _, h14, fun j _ _ u _ => ⟨trivial, trivial⟩⟩)
    · have h15 : s 42 = .bool true := hd 15 (by decide +kernel)
      exact stepG_struck (b := true) (g := 15) (by rfl) h15 (stepS_move _ rfl ⟨Below.refl _ _, s6, fun j _ _ u _ => ⟨trivial, trivial⟩⟩)
    · have h15 : s 42 = .bool true := hd 15 (by decide +kernel)
      exact stepG_struck (b := true) (g := 15) (by rfl) h15 (stepS_move _ rfl ⟨Below.refl _ _, s10, fun j _ _ u _ => ⟨trivial, trivial⟩⟩)
    · have h15 : s 42 = .bool true := hd 15 (by decide +kernel)
      have h16 : s 43 = .int .i64 E := hd 16 (by decide +kernel)
      have h17 : s 44 = .int .i64 E := hd 17 (by decide +kernel)
      refine stepG_struck (b := true) (g := 15) (by rfl) h15 (stepS_run (v := .bool true) ?_ ⟨Below.refl _ _, rfl, fun j _ _ u _ => ⟨trivial, trivial⟩⟩)
      simp [execOp, evS, h16, h17, Result.andThen, go_sem]
    · have h15 : s 42 = .bool true := hd 15 (by decide +kernel)
      have h18 : s 45 = .bool true := hd 18 (by decide +kernel)
      refine stepG_plain (by rfl) (stepS_run (v := .bool true) ?_ ⟨Below.refl _ _, rfl, fun j _ _ u _ => ⟨trivial, trivial⟩⟩)
      simp [execOp, evS, h15, h18, Result.andThen, go_sem]
    · have h19 : s 46 = .bool true := hd 19 (by decide +kernel)
      exact stepG_plain (by rfl) (stepS_move _ rfl ⟨Below.refl _ _, h19, fun j _ _ u _ => ⟨trivial, trivial⟩⟩)
    · have h20 : s 47 = .bool true := hd 20 (by decide +kernel)
      exact stepG_struck (b := true) (g := 20) (by rfl) h20 (stepS_load rfl s1 (hB.1.get (by simp)) Try.underlying26 rfl HI.out ⟨Below.refl _ _, rfl, fun j _ _ u _ => ⟨trivial, trivial⟩⟩)
    · have h20 : s 47 = .bool true := hd 20 (by decide +kernel)
      have h21 : s 48 = .agg P.toArray := hd 21 (by decide +kernel)
      refine stepG_struck (b := true) (g := 20) (by rfl) h20 ?_
      refine stepS_call rfl Try.func17 (by kernel_rfl) (by kernel_rfl) #[.agg P.toArray] (by simp [evS, h21]) ((HBA.out w9).mono ?_)
      rintro e w10 ⟨rfl, hb10⟩
      exact ⟨_, rfl, hb10, rfl, fun j _ _ u _ => ⟨trivial, trivial⟩⟩
    · have h20 : s 47 = .bool true := hd 20 (by decide +kernel)
      exact stepG_struck (b := true) (g := 20) (by rfl) h20 (stepS_load rfl s1 (hB.1.get (by simp)) Try.underlying26 rfl HI.out ⟨Below.refl _ _, rfl, fun j _ _ u _ => ⟨trivial, trivial⟩⟩)
    · have h20 : s 47 = .bool true := hd 20 (by decide +kernel)
      have h23 : s 50 = .agg P.toArray := hd 23 (by decide +kernel)
      refine stepG_struck (b := true) (g := 20) (by rfl) h20 ?_
      refine stepS_call rfl Try.func19 (by kernel_rfl) (by kernel_rfl) #[.agg P.toArray] (by simp [evS, h23]) ((HBB.out w9).mono ?_)
      rintro e w10 ⟨rfl, hb10⟩
      exact ⟨_, rfl, hb10, rfl, fun j _ _ u _ => ⟨trivial, trivial⟩⟩
    · have h20 : s 47 = .bool true := hd 20 (by decide +kernel)
      have h22 : s 49 = .bool z := hd 22 (by decide +kernel)
      have h24 : s 51 = .bool z := hd 24 (by decide +kernel)
      refine stepG_struck (b := true) (g := 20) (by rfl) h20 (stepS_run (v := .bool true) ?_ ⟨Below.refl _ _, rfl, fun j _ _ u _ => ⟨trivial, trivial⟩⟩)
      simp [execOp, evS, h22, h24, Result.andThen, go_sem]
    · have h20 : s 47 = .bool true := hd 20 (by decide +kernel)
      have h25 : s 52 = .bool true := hd 25 (by decide +kernel)
      refine stepG_plain (by rfl) (stepS_run (v := .bool true) ?_ ⟨Below.refl _ _, rfl, fun j _ _ u _ => ⟨trivial, trivial⟩⟩)
      simp [execOp, evS, h20, h25, Result.andThen, go_sem]
    · have h26 : s 53 = .bool true := hd 26 (by decide +kernel)
      exact stepG_plain (by rfl) (stepS_assign _ rfl ⟨Below.refl _ _, h26, fun j _ _ u _ => ⟨trivial, trivial⟩⟩)
  intro s w9 hB hF _
  have h2 : s 2 = .bool true := hF 27 (by decide)
  refine wpAny_end (by kernel_rfl) ?_
  simp only [setAll, List.foldl_cons, List.foldl_nil, List.setIfInBounds_toArray, List.set_cons_succ, List.set_cons_zero, h2]
  clear hF h2
  go_wp2_with fail
  go_ret
  exact ⟨rfl, hB.1.below⟩
end Go.Proofs.YtljdfhckllncoaaK

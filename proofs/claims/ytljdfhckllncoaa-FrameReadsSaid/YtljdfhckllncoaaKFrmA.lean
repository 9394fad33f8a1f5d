import Derived.Test.YtljdfhckllncoaaKFrmW
import Derived.Test.YtljdfhckllncoaaKMa
import Derived.Test.YtljdfhckllncoaaKMc
import Derived.Lib.SlBytesConst
namespace Go.Proofs.YtljdfhckllncoaaK
open Go.RowKit
set_option linter.unusedSimpArgs false
set_option linter.unusedVariables false
set_option maxRecDepth 100000 in
set_option maxHeartbeats 4000000 in
theorem frame_speaks (w : World) : Calls Try.prog 13 #[] w fun e w' => e = .returned (.bool true) ∧ Below w.heap.size w w' := by
  have HW := Lib.hid (fun W A n c h hn => fw_any 7 A n c [[97], [98]] W h hn (by decide))
  have hfl : [[97], [98]].flatten = ([97, 98] : List UInt8) := rfl
  rw [hfl, show fwR 7 [97, 98] = (frP 7 [97, 98], 0) from by unfold fwR; rw [if_neg (by decide)]] at HW
  have hPl := frP_len 7 [97, 98] (by decide)
  have h5 := frP_five
  have hz := page_zero
  obtain ⟨P, hP⟩ : ∃ P, P = frP 7 [97, 98] := ⟨_, rfl⟩
  rw [← hP] at HW hPl h5
  dsimp only at HW
  have hb1 := Bs.new (w := w) (bs := [97]) (cs := #[.int .u8 97]) (n := 1) (b := w.heap.size) (T := 5) (fz := (1, 2)) rfl rfl rfl (by decide)
  have hb2 := Bs.new (w := w.alloc (.cells #[.int .u8 97] 5 (1, 2))) (bs := [98]) (cs := #[.int .u8 98]) (n := 1) (b := w.heap.size + 1) (T := 5) (fz := (1, 2)) (by simp) rfl rfl (by decide)
  have hb12 := hb1.below ((Below.refl (w.alloc (.cells #[.int .u8 97] 5 (1, 2))).heap.size _).alloc (Nat.le_refl _) (.cells #[.int .u8 98] 5 (1, 2)))
  have hbb := Bss.new2 (b := w.heap.size + 1 + 1) (T := 22) (fz := (0, 0)) (by simp) hb12 hb2
  have hq3 : Below w.heap.size w (((w.alloc (.cells #[.int .u8 97] 5 (1, 2))).alloc (.cells #[.int .u8 98] 5 (1, 2))).alloc (.cells #[.slice (some ⟨w.heap.size, 0, none⟩) 1 1, .slice (some ⟨w.heap.size + 1, 0, none⟩) 1 1] 22)) := (((Below.refl _ _).alloc (Nat.le_refl _) _).alloc (by simp) _).alloc (by simp; omega) _
  have HBB := Lib.hid hbb
  obtain ⟨Z, hZ⟩ : ∃ Z, Z = z258.map encB := ⟨_, rfl⟩
  have hZl : Z.length = 258 := by rw [hZ, List.length_map, z258_len]
  rw [← hZ] at hz
  have HZZ : Hid ((P.map encB).toArray.size = Z.toArray.toList.length) := Lib.hid (by simp [hPl, hZl])
  have HIPA := Lib.hid (show (Try.prog.info? 26).map (·.size) = some (P.map encB).toArray.size by rw [List.size_toArray, List.length_map, hPl]; exact page_info)
  have H1P : Hid ((P.map encB).toArray.all (·.oneCell') = true) := Lib.hid (all_oneCell_toArray (encB_all _))
  have H5 := Lib.hid h5
  have HPL := Lib.hid hPl
  clear hbb hb12 hb2 hb1 hP hPl h5 hZ hZl hfl
  have kc := fun (w : World) (C : Array Value) (n c : Nat) => Lib.run_convert_bytes_const (P := Try.prog) w 22 5 C n c Try.underlying22 Try.underlying5
  have kc2 := kc (w.alloc (.cells #[.int .u8 97] 5 (1, 2))) #[.int .u8 98] 1 1
  rw [World.size_alloc] at kc2
  go_enter Try.func13, Try.ntmps13
  go_upto_region 2 with (first
    | (go_at_call 14; refine (HW.out _ _ _ _ HBB.out (by decide)).mono ?_; rintro e w4 ⟨rfl, hb4⟩; have hq4 := hq3.trans (hb4.mono hq3.size); have hA4 := arr_new w4 Z.toArray 26)
    | (refine wpList_store_mid rfl 26 _ _ rfl w4.heap.size 0 (P.map encB).toArray rfl rfl (hA4.thereA HZZ.out) HIPA.out H1P.out ?_))
  have hA5 := hA4.setA_same HZZ.out
  have hq5 := below_setCells hq4.size (P.map encB).toArray.toList 0 (hq4.alloc hq4.size (.cells Z.toArray 26))
  rw [show (P.map encB).toArray.toList = P.map encB from by simp] at hA5 hq5
  have hbs := hA5.bs 0 5 258 (by rw [HPL.out]; decide) (by decide) (by decide)
  rw [List.drop_zero, H5.out] at hbs
  have hcv := run_str hbs
  rw [show str [7, 2, 97, 98, 0] = ({ data := #[7, 2, 97, 98, 0] } : ByteArray) from rfl] at hcv
  go_wp2_with fail
  go_ret
  exact ⟨rfl, hq5⟩
def apA (xb : Nat) (k1 k2 : UInt8) (P1 P2 : List Value) (aa bb : List UInt8) : Nat → Value → World → Prop
  | 0, v, _ => v = .int .i64 1
  | 1, v, _ => v = .bool true
  | 2, v, _ => v = .bool true
  | 3, v, _ => v = undef
  | 4, v, _ => v = undef
  | 5, v, _ => v = .bool true
  | 6, v, _ => v = .bool true
  | 7, v, _ => v = undef
  | 8, v, _ => v = undef
  | 9, v, _ => v = undef
  | 10, v, _ => v = undef
  | 11, v, _ => v = undef
  | 12, v, _ => v = undef
  | 13, v, _ => v = undef
  | 14, v, _ => v = undef
  | 15, v, _ => v = undef
  | 16, v, _ => v = undef
  | 17, v, _ => v = undef
  | 18, v, _ => v = undef
  | 19, v, _ => v = undef
  | 20, v, _ => v = undef
  | 21, v, _ => v = undef
  | 22, v, _ => v = undef
  | 23, v, _ => v = .bool true
  | 24, v, _ => v = .bool true
  | _, _, _ => False
theorem apA_below {xb : Nat} {k1 k2 : UInt8} {P1 P2 : List Value} {aa bb : List UInt8} (i : Nat) (v : Value) (w w' : World) (hb : Below w.heap.size w w') (h : apA xb k1 k2 P1 P2 aa bb i v w) : apA xb k1 k2 P1 P2 aa bb i v w' := by
  match i with
  | 0 | 1 | 2 | 3 | 4 | 5 | 6 | 7 | 8 | 9 | 10 | 11 => exact h
  | 12 | 13 | 14 | 15 | 16 | 17 | 18 | 19 | 20 | 21 | 22 | 23 => exact h
  | 24 => exact h
  | n + 25 => exact h

def apB (xb : Nat) (k1 k2 : UInt8) (P1 P2 : List Value) (aa bb : List UInt8) : Nat → Value → World → Prop
  | 0, v, _ => v = .int .i64 0
  | 1, v, _ => v = .bool false
  | 2, v, _ => v = .bool false
  | 3, v, _ => v = .int .i64 1
  | 4, v, _ => v = .bool true
  | 5, v, _ => v = .bool true
  | 6, v, _ => v = .bool true
  | 7, v, _ => v = undef
  | 8, v, _ => v = undef
  | 9, v, _ => v = undef
  | 10, v, _ => v = undef
  | 11, v, _ => v = undef
  | 12, v, _ => v = undef
  | 13, v, _ => v = undef
  | 14, v, _ => v = undef
  | 15, v, _ => v = undef
  | 16, v, _ => v = undef
  | 17, v, _ => v = undef
  | 18, v, _ => v = undef
  | 19, v, _ => v = undef
  | 20, v, _ => v = undef
  | 21, v, _ => v = undef
  | 22, v, _ => v = undef
  | 23, v, _ => v = .bool true
  | 24, v, _ => v = .bool true
  | _, _, _ => False
theorem apB_below {xb : Nat} {k1 k2 : UInt8} {P1 P2 : List Value} {aa bb : List UInt8} (i : Nat) (v : Value) (w w' : World) (hb : Below w.heap.size w w') (h : apB xb k1 k2 P1 P2 aa bb i v w) : apB xb k1 k2 P1 P2 aa bb i v w' := by
  match i with
  | 0 | 1 | 2 | 3 | 4 | 5 | 6 | 7 | 8 | 9 | 10 | 11 => exact h
  | 12 | 13 | 14 | 15 | 16 | 17 | 18 | 19 | 20 | 21 | 22 | 23 => exact h
  | 24 => exact h
  | n + 25 => exact h

def apC1 (xb : Nat) (k1 k2 : UInt8) (P1 P2 : List Value) (aa bb : List UInt8) : Nat → Value → World → Prop
  | 0, v, _ => v = .int .i64 0
  | 1, v, _ => v = .bool false
  | 2, v, _ => v = .bool false
  | 3, v, _ => v = .int .i64 0
  | 4, v, _ => v = .bool false
  | 5, v, _ => v = .bool false
  | 6, v, _ => v = .bool false
  | 7, v, _ => v = .agg P1.toArray
  | 8, v, _ => v = .agg P2.toArray
  | 9, v, _ => v = .bool true
  | 10, v, _ => v = .pointer (some ⟨xb, 0, none⟩)
  | 11, v, _ => v = .int .u8 (k1.toNat : Int)
  | 12, v, _ => v = .pointer (some ⟨xb, 1, none⟩)
  | 13, v, _ => v = .int .u8 (k2.toNat : Int)
  | 14, v, _ => v = .bool true
  | 15, v, _ => v = .bool true
  | 16, v, w => BsV aa v w
  | 17, v, _ => v = .string (str aa)
  | 18, v, w => BsV bb v w
  | 19, v, _ => v = .string (str bb)
  | 20, v, _ => v = .bool true
  | 21, v, _ => v = .bool true
  | 22, v, _ => v = .bool true
  | 23, v, _ => v = .bool true
  | 24, v, _ => v = .bool true
  | _, _, _ => False
theorem apC1_below {xb : Nat} {k1 k2 : UInt8} {P1 P2 : List Value} {aa bb : List UInt8} (i : Nat) (v : Value) (w w' : World) (hb : Below w.heap.size w w') (h : apC1 xb k1 k2 P1 P2 aa bb i v w) : apC1 xb k1 k2 P1 P2 aa bb i v w' := by
  match i with
  | 16 => exact BsV.below h hb
  | 18 => exact BsV.below h hb
  | 0 | 1 | 2 | 3 | 4 | 5 | 6 | 7 | 8 | 9 | 10 | 11 => exact h
  | 12 | 13 | 14 | 15 | 17 | 19 | 20 | 21 | 22 | 23 | 24 => exact h
  | n + 25 => exact h

def apC2 (xb : Nat) (k1 k2 : UInt8) (P1 P2 : List Value) (aa bb : List UInt8) : Nat → Value → World → Prop
  | 0, v, _ => v = .int .i64 0
  | 1, v, _ => v = .bool false
  | 2, v, _ => v = .bool false
  | 3, v, _ => v = .int .i64 0
  | 4, v, _ => v = .bool false
  | 5, v, _ => v = .bool false
  | 6, v, _ => v = .bool false
  | 7, v, _ => v = .agg P1.toArray
  | 8, v, _ => v = .agg P2.toArray
  | 9, v, _ => v = .bool false
  | 10, v, _ => v = .pointer (some ⟨xb, 0, none⟩)
  | 11, v, _ => v = .int .u8 (k1.toNat : Int)
  | 12, v, _ => v = .pointer (some ⟨xb, 1, none⟩)
  | 13, v, _ => v = .int .u8 (k2.toNat : Int)
  | 14, v, _ => v = .bool true
  | 15, v, _ => v = .bool true
  | 16, v, w => BsV aa v w
  | 17, v, _ => v = .string (str aa)
  | 18, v, w => BsV bb v w
  | 19, v, _ => v = .string (str bb)
  | 20, v, _ => v = .bool false
  | 21, v, _ => v = .bool false
  | 22, v, _ => v = .bool true
  | 23, v, _ => v = .bool true
  | 24, v, _ => v = .bool true
  | _, _, _ => False
theorem apC2_below {xb : Nat} {k1 k2 : UInt8} {P1 P2 : List Value} {aa bb : List UInt8} (i : Nat) (v : Value) (w w' : World) (hb : Below w.heap.size w w') (h : apC2 xb k1 k2 P1 P2 aa bb i v w) : apC2 xb k1 k2 P1 P2 aa bb i v w' := by
  match i with
  | 16 => exact BsV.below h hb
  | 18 => exact BsV.below h hb
  | 0 | 1 | 2 | 3 | 4 | 5 | 6 | 7 | 8 | 9 | 10 | 11 => exact h
  | 12 | 13 | 14 | 15 | 17 | 19 | 20 | 21 | 22 | 23 | 24 => exact h
  | n + 25 => exact h

def apC3 (xb : Nat) (k1 k2 : UInt8) (P1 P2 : List Value) (aa bb : List UInt8) : Nat → Value → World → Prop
  | 0, v, _ => v = .int .i64 0
  | 1, v, _ => v = .bool false
  | 2, v, _ => v = .bool false
  | 3, v, _ => v = .int .i64 0
  | 4, v, _ => v = .bool false
  | 5, v, _ => v = .bool false
  | 6, v, _ => v = .bool false
  | 7, v, _ => v = .agg P1.toArray
  | 8, v, _ => v = .agg P2.toArray
  | 9, v, _ => v = .bool false
  | 10, v, _ => v = .pointer (some ⟨xb, 0, none⟩)
  | 11, v, _ => v = .int .u8 (k1.toNat : Int)
  | 12, v, _ => v = .pointer (some ⟨xb, 1, none⟩)
  | 13, v, _ => v = .int .u8 (k2.toNat : Int)
  | 14, v, _ => v = .bool false
  | 15, v, _ => v = .bool false
  | 16, v, _ => v = undef
  | 17, v, _ => v = undef
  | 18, v, _ => v = undef
  | 19, v, _ => v = undef
  | 20, v, _ => v = undef
  | 21, v, _ => v = .bool false
  | 22, v, _ => v = .bool true
  | 23, v, _ => v = .bool true
  | 24, v, _ => v = .bool true
  | _, _, _ => False
theorem apC3_below {xb : Nat} {k1 k2 : UInt8} {P1 P2 : List Value} {aa bb : List UInt8} (i : Nat) (v : Value) (w w' : World) (hb : Below w.heap.size w w') (h : apC3 xb k1 k2 P1 P2 aa bb i v w) : apC3 xb k1 k2 P1 P2 aa bb i v w' := by
  match i with
  | 0 | 1 | 2 | 3 | 4 | 5 | 6 | 7 | 8 | 9 | 10 | 11 => exact h
  | 12 | 13 | 14 | 15 | 16 | 17 | 18 | 19 | 20 | 21 | 22 | 23 => exact h
  | 24 => exact h
  | n + 25 => exact h

theorem fwR_ok (k : UInt8) (body : List UInt8) : (fwR k body).2 = 0 → body.length ≤ 240 ∧ (fwR k body).1 = frP k body := by
  unfold fwR
  split
  · intro h; cases h
  · intro _; exact ⟨by omega, rfl⟩
theorem fwR_01 (k : UInt8) (body : List UInt8) : (fwR k body).2 = 0 ∨ (fwR k body).2 = 1 := by
  unfold fwR
  split
  · exact .inr rfl
  · exact .inl rfl
theorem fwR_len (k : UInt8) (body : List UInt8) : (fwR k body).1.length = 258 := by
  unfold fwR
  split
  · exact z258_len
  · exact frP_len k body (by omega)
set_option maxRecDepth 100000 in
set_option maxHeartbeats 8000000 in
theorem frameApart_walk (A : Option Addr) (n c : Nat) (aa : List UInt8) (A2 : Option Addr) (n2 c2 : Nat) (bb : List UInt8) (k1 k2 : UInt8) (w : World) (hX : Bs w (.slice A n c) aa) (hY : Bs w (.slice A2 n2 c2) bb) :
    Calls Try.prog 3 #[.slice A n c, .slice A2 n2 c2, .agg #[.int .u8 (k1.toNat : Int), .int .u8 (k2.toNat : Int)]] w fun e w' => e = .returned (.bool true) ∧ Below w.heap.size w w' := by
  have HL := Lib.hid hX.len
  have HL2 := Lib.hid hY.len
  by_cases hg : 300 < n ∨ 300 < n2
  · by_cases h1 : 300 < n
    all_goals
      have HG := Lib.hid hg
      clear hX hY
      by_cases h2 : 300 < n2
      all_goals
        first
          | (exfalso; rcases HG.out with h | h <;> omega)
          | (clear hg
             go_enter Try.func3, Try.ntmps3
             go_wp2_with (go_at_call 13; refine (frame_speaks _).mono ?_; rintro e w1 ⟨rfl, hb1⟩)
             go_ret
             exact ⟨rfl, ((Below.refl w.heap.size w).alloc (Nat.le_refl _) _).trans (hb1.mono (by simp))⟩)
  have hn : ¬ 300 < n := by omega
  have hn2 : ¬ 300 < n2 := by omega
  have hal : aa.length ≤ 300 := by rw [← HL.out]; omega
  have hbl : bb.length ≤ 300 := by rw [← HL2.out]; omega
  clear hg
  have HW1 := fun W A n c h hn => fw_any k1 A n c [aa] W h hn (by simp [Lib.lens]; omega)
  have HW2 := fun W A n c h hn => fw_any k2 A n c [bb] W h hn (by simp [Lib.lens]; omega)
  rw [show [aa].flatten = aa from by simp] at HW1
  rw [show [bb].flatten = bb from by simp] at HW2
  have hr1 := fwR_ok k1 aa
  have hr2 := fwR_ok k2 bb
  have hl1 := fwR_len k1 aa
  have hl2 := fwR_len k2 bb
  have he1 := fwR_01 k1 aa
  have he2 := fwR_01 k2 bb
  have heq' := fun w => arr_eql (P := Try.prog) Try.underlying26 Try.underlying5 (by kernel_rfl) (by kernel_rfl) (by kernel_rfl) (fwR k1 aa).1 (fwR k2 bb).1 hl1 hl2 w
  have hpeq : (fwR k1 aa).2 = 0 → (fwR k2 bb).2 = 0 → ((fwR k1 aa).1 = (fwR k2 bb).1 ↔ (k1 = k2 ∧ aa = bb)) := fun a b => by
    rw [(hr1 a).2, (hr2 b).2]
    exact frP_inj k1 aa k2 bb (hr1 a).1 (hr2 b).1
  obtain ⟨dd, hdd⟩ : ∃ d, d = decide ((fwR k1 aa).1 = (fwR k2 bb).1) := ⟨_, rfl⟩
  rw [← hdd] at heq'
  have hdd2 : (fwR k1 aa).2 = 0 → (fwR k2 bb).2 = 0 → dd = decide (k1 = k2 ∧ aa = bb) := fun a b => by
    rw [hdd, decide_eq_decide]; exact hpeq a b
  obtain ⟨E1, hE1⟩ : ∃ E, E = (fwR k1 aa).2 := ⟨_, rfl⟩
  obtain ⟨E2, hE2⟩ : ∃ E, E = (fwR k2 bb).2 := ⟨_, rfl⟩
  obtain ⟨P1, hP1⟩ : ∃ E, E = (fwR k1 aa).1.map encB := ⟨_, rfl⟩
  obtain ⟨P2, hP2⟩ : ∃ E, E = (fwR k2 bb).1.map encB := ⟨_, rfl⟩
  rw [← hE1] at HW1 hdd2 he1
  rw [← hE2] at HW2 hdd2 he2
  rw [← hP1] at HW1 heq'
  rw [← hP2] at HW2 heq'
  have hP1l : P1.length = 258 := by rw [hP1, List.length_map]; exact hl1
  have hP2l : P2.length = 258 := by rw [hP2, List.length_map]; exact hl2
  have HI1 := Lib.hid (show (Try.prog.info? 26).map (·.size) = some P1.length by rw [hP1l]; exact page_info)
  have HI2 := Lib.hid (show (Try.prog.info? 26).map (·.size) = some P2.length by rw [hP2l]; exact page_info)
  have HIA1 := Lib.hid (show (Try.prog.info? 26).map (·.size) = some P1.toArray.size by rw [List.size_toArray, hP1l]; exact page_info)
  have HIA2 := Lib.hid (show (Try.prog.info? 26).map (·.size) = some P2.toArray.size by rw [List.size_toArray, hP2l]; exact page_info)
  have H11 : Hid (P1.toArray.all (·.oneCell') = true) := Lib.hid (all_oneCell_toArray (by rw [hP1]; exact encB_all _))
  have H12 : Hid (P2.toArray.all (·.oneCell') = true) := Lib.hid (all_oneCell_toArray (by rw [hP2]; exact encB_all _))
  have hz := page_zero
  obtain ⟨Z, hZ⟩ : ∃ Z, Z = z258.map encB := ⟨_, rfl⟩
  have hZl : Z.length = 258 := by rw [hZ, List.length_map, z258_len]
  rw [← hZ] at hz
  have HZ1 : Hid (P1.toArray.size = Z.toArray.toList.length) := Lib.hid (by simp [hP1l, hZl])
  have HZ2 : Hid (P2.toArray.size = Z.toArray.toList.length) := Lib.hid (by simp [hP2l, hZl])
  replace HW1 := Lib.hid HW1
  replace HW2 := Lib.hid HW2
  have HEQ := Lib.hid heq'
  have HDD := Lib.hid hdd2
  have HE1 := Lib.hid he1
  have HE2 := Lib.hid he2
  clear hr1 hr2 hl1 hl2 he1 he2 heq' hpeq hdd hdd2 hE1 hE2 hP1 hP2 hP1l hP2l hZ hZl hal hbl
  obtain ⟨W, hW⟩ : ∃ W, W = w.alloc (.cells #[.int .u8 (k1.toNat : Int), .int .u8 (k2.toNat : Int)] 23) := ⟨_, rfl⟩
  obtain ⟨xb, hxb⟩ : ∃ xb, xb = w.heap.size := ⟨_, rfl⟩
  have hR0 : Rows w [(xb, [.int .u8 (k1.toNat : Int), .int .u8 (k2.toNat : Int)])] W := by rw [hW, hxb]; exact (Rows.nil w).new #[.int .u8 (k1.toNat : Int), .int .u8 (k2.toNat : Int)] _
  have HXX := Lib.hid hX
  have HYY := Lib.hid hY
  go_enter Try.func3, Try.ntmps3
  go_wp2_with fail
  rw [← hW]
  simp only [← hxb]
  clear hW hxb hX hY
  go_upto_region 5 with (go_at_call 13; refine (frame_speaks _).mono ?_; rintro e w1 ⟨rfl, hb1⟩; have hR1 := hR0.go hb1; have hAx1 := hR1.get (b := xb) (L := [.int .u8 (k1.toNat : Int), .int .u8 (k2.toNat : Int)]) (by simp); have hc0 := hAx1.at_ 0 _ rfl)
  have hX1 := HXX.out.below hR1.below
  have HB1 := Lib.hid (Bss.new1 (w := w1) (b := w1.heap.size) (T := 22) (fz := (0, 0)) rfl hX1)
  have hR1b := hR1.alloc (.cells #[.slice A n c] 22)
  have tok : True := trivial
  go_upto_region 6 with (first
    | (go_at_call 14; refine (HW1.out _ _ _ _ HB1.out (by decide)).mono ?_; rintro e w4 ⟨rfl, hb4⟩; have hR4 := hR1b.go hb4; have hR5 := hR4.new Z.toArray 26)
    | (refine wpList_store_mid rfl 26 _ _ rfl w4.heap.size 0 P1.toArray rfl rfl ((hR5.get (b := w4.heap.size) (L := Z.toArray.toList) (by simp)).thereA HZ1.out) HIA1.out H11.out ?_))
  have hR6 := hR5.storeA HZ1.out
  rw [List.toList_toArray] at hR6
  obtain ⟨W6, hW6⟩ : ∃ W6, W6 = (w4.alloc (.cells Z.toArray 26)).setCells w4.heap.size 0 P1 := ⟨_, rfl⟩
  obtain ⟨p7, hp7⟩ : ∃ p7, p7 = w4.heap.size := ⟨_, rfl⟩
  rw [← hW6] at hR6 ⊢
  simp only [← hp7] at hR6 ⊢
  clear hW6 hp7 hR5 hR4 hR1b hR1 hX1 hc0 hAx1
  have hX6 := HYY.out.below hR6.below
  have HB6 := Lib.hid (Bss.new1 (w := W6) (b := W6.heap.size) (T := 22) (fz := (0, 0)) rfl hX6)
  have hR6b := hR6.alloc (.cells #[.slice A2 n2 c2] 22)
  have hAx6 := hR6.get (b := xb) (L := [.int .u8 (k1.toNat : Int), .int .u8 (k2.toNat : Int)]) (by simp)
  have hc1 := hAx6.at_ 1 _ rfl
  go_upto_region 7 with (first
    | (go_at_call 14; refine (HW2.out _ _ _ _ HB6.out (by decide)).mono ?_; rintro e w7 ⟨rfl, hb7⟩; have hR7 := hR6b.go hb7; have hR8 := hR7.new Z.toArray 26)
    | (refine wpList_store_mid rfl 26 _ _ rfl w7.heap.size 0 P2.toArray rfl rfl ((hR8.get (b := w7.heap.size) (L := Z.toArray.toList) (by simp)).thereA HZ2.out) HIA2.out H12.out ?_))
  have hR := hR8.storeA HZ2.out
  rw [List.toList_toArray] at hR
  obtain ⟨W9, hW9⟩ : ∃ W9, W9 = (w7.alloc (.cells Z.toArray 26)).setCells w7.heap.size 0 P2 := ⟨_, rfl⟩
  obtain ⟨p9, hp9⟩ : ∃ p9, p9 = w7.heap.size := ⟨_, rfl⟩
  rw [← hW9] at hR ⊢
  simp only [← hp9] at hR ⊢
  clear hW9 hp9 hR8 hR7 hR6b hR6 hX6 hc1 hAx6
  have hX9 := HXX.out.below hR.below
  have hY9 := HYY.out.below hR.below
  have hgd : Try.prog.eqGuardType Try.prog.depth 26 = false := by kernel_rfl
  try simp only [List.getElem_toArray, List.getElem_cons_succ, List.getElem_cons_zero, Act.put, List.setIfInBounds_toArray, List.set_cons_zero, List.set_cons_succ]
  rcases HE1.out with e1 | e1
  · rcases HE2.out with e2 | e2
    · have hdd := HDD.out e1 e2
      have heq := HEQ.out
      subst e1 e2
      by_cases hk : k1 = k2
      · have hkq : ((k1.toNat : Int) == (k2.toNat : Int)) = true := by rw [hk]; exact beq_self_eq_true _
        by_cases hb : aa = bb
        · have hd : dd = true := by rw [hdd]; simp [hk, hb]
          subst hd
          refine wp_region_front 25 [37, 38, 39, 40, 41, 42, 43, 44, 45, 46, 47, 48, 49, 50, 51, 52, 53, 54, 55, 56, 57, 58, 59, 60, 6] 0 #[true, true, true, true, true, true, true, true, true, true, true, true, true, true, true, true, true, true, true, true, true, true, true, true, true] (fun W => Rows w [(p9, P2), (p7, P1), (xb, [.int .u8 (k1.toNat : Int), .int .u8 (k2.toNat : Int)])] W ∧ Bs W (.slice A n c) aa ∧ Bs W (.slice A2 n2 c2) bb) (apC1 xb k1 k2 P1 P2 aa bb) yesP (by kernel_rfl) (by kernel_rfl) (by kernel_rfl) (by kernel_rfl) (by kernel_rfl) (fun _ _ hb h => ⟨h.1.go hb, h.2.1.below hb, h.2.2.below hb⟩) apC1_below ⟨hR.drew, hX9.below (Below.refl _ _).drew, hY9.below (Below.refl _ _).drew⟩ ?_ ?_
          · intro i hi s w9 hs hB hd
            have s0 : s 0 = .slice A n c := hs 0 (by decide)
            have s1 : s 1 = .slice A2 n2 c2 := hs 1 (by decide)
            have s5 : s 5 = .pointer (some ⟨xb, 0, none⟩) := hs 5 (by decide)
            have s7 : s 7 = .pointer (some ⟨p7, 0, none⟩) := hs 7 (by decide)
            have s8 : s 8 = .int .i64 0 := hs 8 (by decide)
            have s9 : s 9 = .pointer (some ⟨p9, 0, none⟩) := hs 9 (by decide)
            have s10 : s 10 = .int .i64 0 := hs 10 (by decide)
            have hAx := hB.1.get (b := xb) (L := [.int .u8 (k1.toNat : Int), .int .u8 (k2.toNat : Int)]) (by simp)
            have hc0 := hAx.at_ 0 _ rfl
            have hc1 := hAx.at_ 1 _ rfl
            obtain rfl | rfl | rfl | rfl | rfl | rfl | rfl | rfl | rfl | rfl | rfl | rfl | rfl | rfl | rfl | rfl | rfl | rfl | rfl | rfl | rfl | rfl | rfl | rfl | rfl : i = 0 ∨ i = 1 ∨ i = 2 ∨ i = 3 ∨ i = 4 ∨ i = 5 ∨ i = 6 ∨ i = 7 ∨ i = 8 ∨ i = 9 ∨ i = 10 ∨ i = 11 ∨ i = 12 ∨ i = 13 ∨ i = 14 ∨ i = 15 ∨ i = 16 ∨ i = 17 ∨ i = 18 ∨ i = 19 ∨ i = 20 ∨ i = 21 ∨ i = 22 ∨ i = 23 ∨ i = 24 := by omega
            · exact stepG_plain (by rfl) (stepS_move _ rfl ⟨Below.refl _ _, s8, fun j _ _ u _ => ⟨trivial, trivial⟩⟩)
            · have h0 : s 37 = .int .i64 0 := hd 0 (by decide +kernel)
              refine stepG_plain (by rfl) (stepS_run (v := .bool false) ?_ ⟨Below.refl _ _, rfl, fun j _ _ u _ => ⟨trivial, trivial⟩⟩)
              simp [execOp, evS, h0, Result.andThen, go_sem]
            · have h1 : s 38 = .bool false := hd 1 (by decide +kernel)
              exact stepG_plain (by rfl) (stepS_move _ rfl ⟨Below.refl _ _, h1, fun j _ _ u _ => ⟨trivial, trivial⟩⟩)
            · have h2 : s 39 = .bool false := hd 2 (by decide +kernel)
              exact stepG_struck (b := false) (g := 2) (by rfl) h2 (stepS_move _ rfl ⟨Below.refl _ _, s10, fun j _ _ u _ => ⟨trivial, trivial⟩⟩)
            · have h2 : s 39 = .bool false := hd 2 (by decide +kernel)
              have h3 : s 40 = .int .i64 0 := hd 3 (by decide +kernel)
              refine stepG_struck (b := false) (g := 2) (by rfl) h2 (stepS_run (v := .bool false) ?_ ⟨Below.refl _ _, rfl, fun j _ _ u _ => ⟨trivial, trivial⟩⟩)
              simp [execOp, evS, h3, Result.andThen, go_sem]
            · have h2 : s 39 = .bool false := hd 2 (by decide +kernel)
              have h4 : s 41 = .bool false := hd 4 (by decide +kernel)
              refine stepG_plain (by rfl) (stepS_run (v := .bool false) ?_ ⟨Below.refl _ _, rfl, fun j _ _ u _ => ⟨trivial, trivial⟩⟩)
              simp [execOp, evS, h2, h4, Result.andThen, go_sem]
            · have h5 : s 42 = .bool false := hd 5 (by decide +kernel)
              exact stepG_plain (by rfl) (stepS_move _ rfl ⟨Below.refl _ _, h5, fun j _ _ u _ => ⟨trivial, trivial⟩⟩)
            · have h6 : s 43 = .bool false := hd 6 (by decide +kernel)
              exact stepG_struck (b := false) (g := 6) (by rfl) h6 (stepS_load rfl s7 (hB.1.get (by simp)) Try.underlying26 rfl HI1.out ⟨Below.refl _ _, rfl, fun j _ _ u _ => ⟨trivial, trivial⟩⟩)
            · have h6 : s 43 = .bool false := hd 6 (by decide +kernel)
              exact stepG_struck (b := false) (g := 6) (by rfl) h6 (stepS_load rfl s9 (hB.1.get (by simp)) Try.underlying26 rfl HI2.out ⟨Below.refl _ _, rfl, fun j _ _ u _ => ⟨trivial, trivial⟩⟩)
            · have h6 : s 43 = .bool false := hd 6 (by decide +kernel)
              have h7 : s 44 = .agg P1.toArray := hd 7 (by decide +kernel)
              have h8 : s 45 = .agg P2.toArray := hd 8 (by decide +kernel)
              refine stepG_struck (b := false) (g := 6) (by rfl) h6 (stepS_run (v := .bool true) ?_ ⟨Below.refl _ _, rfl, fun j _ _ u _ => ⟨trivial, trivial⟩⟩)
              simp [execOp, evS, h7, h8, hgd, heq, Result.andThen, go_sem]
            · have h6 : s 43 = .bool false := hd 6 (by decide +kernel)
              refine stepG_struck (b := false) (g := 6) (by rfl) h6 (stepS_run (v := .pointer (some ⟨xb, 0, none⟩)) ?_ ⟨Below.refl _ _, rfl, fun j _ _ u _ => ⟨trivial, trivial⟩⟩)
              simp [execOp, evS, s5, Result.andThen, go_sem]
            · have h6 : s 43 = .bool false := hd 6 (by decide +kernel)
              have h10 : s 47 = .pointer (some ⟨xb, 0, none⟩) := hd 10 (by decide +kernel)
              refine stepG_struck (b := false) (g := 6) (by rfl) h6 (stepS_run (v := .int .u8 (k1.toNat : Int)) ?_ ⟨Below.refl _ _, rfl, fun j _ _ u _ => ⟨trivial, trivial⟩⟩)
              simp [execOp, evS, h10, hc0, Result.andThen, go_sem]
            · have h6 : s 43 = .bool false := hd 6 (by decide +kernel)
              refine stepG_struck (b := false) (g := 6) (by rfl) h6 (stepS_run (v := .pointer (some ⟨xb, 1, none⟩)) ?_ ⟨Below.refl _ _, rfl, fun j _ _ u _ => ⟨trivial, trivial⟩⟩)
              simp [execOp, evS, s5, Result.andThen, go_sem]
            · have h6 : s 43 = .bool false := hd 6 (by decide +kernel)
              have h12 : s 49 = .pointer (some ⟨xb, 1, none⟩) := hd 12 (by decide +kernel)
              refine stepG_struck (b := false) (g := 6) (by rfl) h6 (stepS_run (v := .int .u8 (k2.toNat : Int)) ?_ ⟨Below.refl _ _, rfl, fun j _ _ u _ => ⟨trivial, trivial⟩⟩)
              simp [execOp, evS, h12, hc1, Result.andThen, go_sem]
            · have h6 : s 43 = .bool false := hd 6 (by decide +kernel)
              have h11 : s 48 = .int .u8 (k1.toNat : Int) := hd 11 (by decide +kernel)
              have h13 : s 50 = .int .u8 (k2.toNat : Int) := hd 13 (by decide +kernel)
              refine stepG_struck (b := false) (g := 6) (by rfl) h6 (stepS_run (v := .bool true) ?_ ⟨Below.refl _ _, rfl, fun j _ _ u _ => ⟨trivial, trivial⟩⟩)
              simp [execOp, evS, h11, h13, hkq, Result.andThen, go_sem]
            · have h6 : s 43 = .bool false := hd 6 (by decide +kernel)
              have h14 : s 51 = .bool true := hd 14 (by decide +kernel)
              exact stepG_struck (b := false) (g := 6) (by rfl) h6 (stepS_move _ rfl ⟨Below.refl _ _, h14, fun j _ _ u _ => ⟨trivial, trivial⟩⟩)
            · have h15 : s 52 = .bool true := hd 15 (by decide +kernel)
              exact stepG_struck (b := true) (g := 15) (by rfl) h15 (stepS_move _ rfl ⟨Below.refl _ _, by show BsV aa (s 0) w9; rw [s0]; exact ⟨_, _, _, rfl, hB.2.1⟩, fun j _ _ u _ => ⟨trivial, trivial⟩⟩)
            · have h15 : s 52 = .bool true := hd 15 (by decide +kernel)
              obtain ⟨A16, n16, c16, h16, b16⟩ : BsV aa (s 53) w9 := hd 16 (by decide +kernel)
              refine stepG_struck (b := true) (g := 15) (by rfl) h15 (stepS_run (v := .string (str aa)) ?_ ⟨Below.refl _ _, rfl, fun j _ _ u _ => ⟨trivial, trivial⟩⟩)
              simp [execOp, evS, h16, run_str b16, Result.andThen, go_sem]
            · have h15 : s 52 = .bool true := hd 15 (by decide +kernel)
              exact stepG_struck (b := true) (g := 15) (by rfl) h15 (stepS_move _ rfl ⟨Below.refl _ _, by show BsV bb (s 1) w9; rw [s1]; exact ⟨_, _, _, rfl, hB.2.2⟩, fun j _ _ u _ => ⟨trivial, trivial⟩⟩)
            · have h15 : s 52 = .bool true := hd 15 (by decide +kernel)
              obtain ⟨A18, n18, c18, h18, b18⟩ : BsV bb (s 55) w9 := hd 18 (by decide +kernel)
              refine stepG_struck (b := true) (g := 15) (by rfl) h15 (stepS_run (v := .string (str bb)) ?_ ⟨Below.refl _ _, rfl, fun j _ _ u _ => ⟨trivial, trivial⟩⟩)
              simp [execOp, evS, h18, run_str b18, Result.andThen, go_sem]
            · have h15 : s 52 = .bool true := hd 15 (by decide +kernel)
              have h17 : s 54 = .string (str aa) := hd 17 (by decide +kernel)
              have h19 : s 56 = .string (str bb) := hd 19 (by decide +kernel)
              refine stepG_struck (b := true) (g := 15) (by rfl) h15 (stepS_run (v := .bool true) ?_ ⟨Below.refl _ _, rfl, fun j _ _ u _ => ⟨trivial, trivial⟩⟩)
              simp [execOp, evS, h17, h19, hb, Result.andThen, go_sem]
            · have h6 : s 43 = .bool false := hd 6 (by decide +kernel)
              have h15 : s 52 = .bool true := hd 15 (by decide +kernel)
              have h20 : s 57 = .bool true := hd 20 (by decide +kernel)
              refine stepG_struck (b := false) (g := 6) (by rfl) h6 (stepS_run (v := .bool true) ?_ ⟨Below.refl _ _, rfl, fun j _ _ u _ => ⟨trivial, trivial⟩⟩)
              simp [execOp, evS, h15, h20, Result.andThen, go_sem]
            · have h6 : s 43 = .bool false := hd 6 (by decide +kernel)
              have h9 : s 46 = .bool true := hd 9 (by decide +kernel)
              have h21 : s 58 = .bool true := hd 21 (by decide +kernel)
              refine stepG_struck (b := false) (g := 6) (by rfl) h6 (stepS_run (v := .bool true) ?_ ⟨Below.refl _ _, rfl, fun j _ _ u _ => ⟨trivial, trivial⟩⟩)
              simp [execOp, evS, h9, h21, Result.andThen, go_sem]
            · have h6 : s 43 = .bool false := hd 6 (by decide +kernel)
              have h22 : s 59 = .bool true := hd 22 (by decide +kernel)
              refine stepG_plain (by rfl) (stepS_run (v := .bool true) ?_ ⟨Below.refl _ _, rfl, fun j _ _ u _ => ⟨trivial, trivial⟩⟩)
              simp [execOp, evS, h6, h22, Result.andThen, go_sem]
            · have h23 : s 60 = .bool true := hd 23 (by decide +kernel)
              exact stepG_plain (by rfl) (stepS_assign _ rfl ⟨Below.refl _ _, h23, fun j _ _ u _ => ⟨trivial, trivial⟩⟩)
          intro s w9 hB hF _
          have h4 : s 6 = .bool true := hF 24 (by decide)
          refine wpAny_end (by kernel_rfl) ?_
          simp only [setAll, List.foldl_cons, List.foldl_nil, List.setIfInBounds_toArray, List.set_cons_succ, List.set_cons_zero, h4]
          clear hF h4
          try clear hkq
          try clear hdd
          try clear heq
          try clear hk
          try clear hb
          go_wp2_with fail
          go_ret
          exact ⟨rfl, hB.1.below⟩
        · have hd : dd = false := by rw [hdd]; simp [hb]
          subst hd
          refine wp_region_front 25 [37, 38, 39, 40, 41, 42, 43, 44, 45, 46, 47, 48, 49, 50, 51, 52, 53, 54, 55, 56, 57, 58, 59, 60, 6] 0 #[true, true, true, true, true, true, true, true, true, true, true, true, true, true, true, true, true, true, true, true, true, true, true, true, true] (fun W => Rows w [(p9, P2), (p7, P1), (xb, [.int .u8 (k1.toNat : Int), .int .u8 (k2.toNat : Int)])] W ∧ Bs W (.slice A n c) aa ∧ Bs W (.slice A2 n2 c2) bb) (apC2 xb k1 k2 P1 P2 aa bb) yesP (by kernel_rfl) (by kernel_rfl) (by kernel_rfl) (by kernel_rfl) (by kernel_rfl) (fun _ _ hb h => ⟨h.1.go hb, h.2.1.below hb, h.2.2.below hb⟩) apC2_below ⟨hR.drew, hX9.below (Below.refl _ _).drew, hY9.below (Below.refl _ _).drew⟩ ?_ ?_
          · intro i hi s w9 hs hB hd
            have s0 : s 0 = .slice A n c := hs 0 (by decide)
            have s1 : s 1 = .slice A2 n2 c2 := hs 1 (by decide)
            have s5 : s 5 = .pointer (some ⟨xb, 0, none⟩) := hs 5 (by decide)
            have s7 : s 7 = .pointer (some ⟨p7, 0, none⟩) := hs 7 (by decide)
            have s8 : s 8 = .int .i64 0 := hs 8 (by decide)
            have s9 : s 9 = .pointer (some ⟨p9, 0, none⟩) := hs 9 (by decide)
            have s10 : s 10 = .int .i64 0 := hs 10 (by decide)
            have hAx := hB.1.get (b := xb) (L := [.int .u8 (k1.toNat : Int), .int .u8 (k2.toNat : Int)]) (by simp)
            have hc0 := hAx.at_ 0 _ rfl
            have hc1 := hAx.at_ 1 _ rfl
            obtain rfl | rfl | rfl | rfl | rfl | rfl | rfl | rfl | rfl | rfl | rfl | rfl | rfl | rfl | rfl | rfl | rfl | rfl | rfl | rfl | rfl | rfl | rfl | rfl | rfl : i = 0 ∨ i = 1 ∨ i = 2 ∨ i = 3 ∨ i = 4 ∨ i = 5 ∨ i = 6 ∨ i = 7 ∨ i = 8 ∨ i = 9 ∨ i = 10 ∨ i = 11 ∨ i = 12 ∨ i = 13 ∨ i = 14 ∨ i = 15 ∨ i = 16 ∨ i = 17 ∨ i = 18 ∨ i = 19 ∨ i = 20 ∨ i = 21 ∨ i = 22 ∨ i = 23 ∨ i = 24 := by omega
            · exact stepG_plain (by rfl) (stepS_move _ rfl ⟨Below.refl _ _, s8, fun j _ _ u _ => ⟨trivial, trivial⟩⟩)
            · have h0 : s 37 = .int .i64 0 := hd 0 (by decide +kernel)
              refine stepG_plain (by rfl) (stepS_run (v := .bool false) ?_ ⟨Below.refl _ _, rfl, fun j _ _ u _ => ⟨trivial, trivial⟩⟩)
              simp [execOp, evS, h0, Result.andThen, go_sem]
            · have h1 : s 38 = .bool false := hd 1 (by decide +kernel)
              exact stepG_plain (by rfl) (stepS_move _ rfl ⟨Below.refl _ _, h1, fun j _ _ u _ => ⟨trivial, trivial⟩⟩)
            · have h2 : s 39 = .bool false := hd 2 (by decide +kernel)
              exact stepG_struck (b := false) (g := 2) (by rfl) h2 (stepS_move _ rfl ⟨Below.refl _ _, s10, fun j _ _ u _ => ⟨trivial, trivial⟩⟩)
            · have h2 : s 39 = .bool false := hd 2 (by decide +kernel)
              have h3 : s 40 = .int .i64 0 := hd 3 (by decide +kernel)
              refine stepG_struck (b := false) (g := 2) (by rfl) h2 (stepS_run (v := .bool false) ?_ ⟨Below.refl _ _, rfl, fun j _ _ u _ => ⟨trivial, trivial⟩⟩)
              simp [execOp, evS, h3, Result.andThen, go_sem]
            · have h2 : s 39 = .bool false := hd 2 (by decide +kernel)
              have h4 : s 41 = .bool false := hd 4 (by decide +kernel)
              refine stepG_plain (by rfl) (stepS_run (v := .bool false) ?_ ⟨Below.refl _ _, rfl, fun j _ _ u _ => ⟨trivial, trivial⟩⟩)
              simp [execOp, evS, h2, h4, Result.andThen, go_sem]
            · have h5 : s 42 = .bool false := hd 5 (by decide +kernel)
              exact stepG_plain (by rfl) (stepS_move _ rfl ⟨Below.refl _ _, h5, fun j _ _ u _ => ⟨trivial, trivial⟩⟩)
            · have h6 : s 43 = .bool false := hd 6 (by decide +kernel)
              exact stepG_struck (b := false) (g := 6) (by rfl) h6 (stepS_load rfl s7 (hB.1.get (by simp)) Try.underlying26 rfl HI1.out ⟨Below.refl _ _, rfl, fun j _ _ u _ => ⟨trivial, trivial⟩⟩)
            · have h6 : s 43 = .bool false := hd 6 (by decide +kernel)
              exact stepG_struck (b := false) (g := 6) (by rfl) h6 (stepS_load rfl s9 (hB.1.get (by simp)) Try.underlying26 rfl HI2.out ⟨Below.refl _ _, rfl, fun j _ _ u _ => ⟨trivial, trivial⟩⟩)
            · have h6 : s 43 = .bool false := hd 6 (by decide +kernel)
              have h7 : s 44 = .agg P1.toArray := hd 7 (by decide +kernel)
              have h8 : s 45 = .agg P2.toArray := hd 8 (by decide +kernel)
              refine stepG_struck (b := false) (g := 6) (by rfl) h6 (stepS_run (v := .bool false) ?_ ⟨Below.refl _ _, rfl, fun j _ _ u _ => ⟨trivial, trivial⟩⟩)
              simp [execOp, evS, h7, h8, hgd, heq, Result.andThen, go_sem]
            · have h6 : s 43 = .bool false := hd 6 (by decide +kernel)
              refine stepG_struck (b := false) (g := 6) (by rfl) h6 (stepS_run (v := .pointer (some ⟨xb, 0, none⟩)) ?_ ⟨Below.refl _ _, rfl, fun j _ _ u _ => ⟨trivial, trivial⟩⟩)
              simp [execOp, evS, s5, Result.andThen, go_sem]
            · have h6 : s 43 = .bool false := hd 6 (by decide +kernel)
              have h10 : s 47 = .pointer (some ⟨xb, 0, none⟩) := hd 10 (by decide +kernel)
              refine stepG_struck (b := false) (g := 6) (by rfl) h6 (stepS_run (v := .int .u8 (k1.toNat : Int)) ?_ ⟨Below.refl _ _, rfl, fun j _ _ u _ => ⟨trivial, trivial⟩⟩)
              simp [execOp, evS, h10, hc0, Result.andThen, go_sem]
            · have h6 : s 43 = .bool false := hd 6 (by decide +kernel)
              refine stepG_struck (b := false) (g := 6) (by rfl) h6 (stepS_run (v := .pointer (some ⟨xb, 1, none⟩)) ?_ ⟨Below.refl _ _, rfl, fun j _ _ u _ => ⟨trivial, trivial⟩⟩)
              simp [execOp, evS, s5, Result.andThen, go_sem]
            · have h6 : s 43 = .bool false := hd 6 (by decide +kernel)
              have h12 : s 49 = .pointer (some ⟨xb, 1, none⟩) := hd 12 (by decide +kernel)
              refine stepG_struck (b := false) (g := 6) (by rfl) h6 (stepS_run (v := .int .u8 (k2.toNat : Int)) ?_ ⟨Below.refl _ _, rfl, fun j _ _ u _ => ⟨trivial, trivial⟩⟩)
              simp [execOp, evS, h12, hc1, Result.andThen, go_sem]
            · have h6 : s 43 = .bool false := hd 6 (by decide +kernel)
              have h11 : s 48 = .int .u8 (k1.toNat : Int) := hd 11 (by decide +kernel)
              have h13 : s 50 = .int .u8 (k2.toNat : Int) := hd 13 (by decide +kernel)
              refine stepG_struck (b := false) (g := 6) (by rfl) h6 (stepS_run (v := .bool true) ?_ ⟨Below.refl _ _, rfl, fun j _ _ u _ => ⟨trivial, trivial⟩⟩)
              simp [execOp, evS, h11, h13, hkq, Result.andThen, go_sem]
            · have h6 : s 43 = .bool false := hd 6 (by decide +kernel)
              have h14 : s 51 = .bool true := hd 14 (by decide +kernel)
              exact stepG_struck (b := false) (g := 6) (by rfl) h6 (stepS_move _ rfl ⟨Below.refl _ _, h14, fun j _ _ u _ => ⟨trivial, trivial⟩⟩)
            · have h15 : s 52 = .bool true := hd 15 (by decide +kernel)
              exact stepG_struck (b := true) (g := 15) (by rfl) h15 (stepS_move _ rfl ⟨Below.refl _ _, by show BsV aa (s 0) w9; rw [s0]; exact ⟨_, _, _, rfl, hB.2.1⟩, fun j _ _ u _ => ⟨trivial, trivial⟩⟩)
            · have h15 : s 52 = .bool true := hd 15 (by decide +kernel)
              obtain ⟨A16, n16, c16, h16, b16⟩ : BsV aa (s 53) w9 := hd 16 (by decide +kernel)
              refine stepG_struck (b := true) (g := 15) (by rfl) h15 (stepS_run (v := .string (str aa)) ?_ ⟨Below.refl _ _, rfl, fun j _ _ u _ => ⟨trivial, trivial⟩⟩)
              simp [execOp, evS, h16, run_str b16, Result.andThen, go_sem]
            · have h15 : s 52 = .bool true := hd 15 (by decide +kernel)
              exact stepG_struck (b := true) (g := 15) (by rfl) h15 (stepS_move _ rfl ⟨Below.refl _ _, by show BsV bb (s 1) w9; rw [s1]; exact ⟨_, _, _, rfl, hB.2.2⟩, fun j _ _ u _ => ⟨trivial, trivial⟩⟩)
            · have h15 : s 52 = .bool true := hd 15 (by decide +kernel)
              obtain ⟨A18, n18, c18, h18, b18⟩ : BsV bb (s 55) w9 := hd 18 (by decide +kernel)
              refine stepG_struck (b := true) (g := 15) (by rfl) h15 (stepS_run (v := .string (str bb)) ?_ ⟨Below.refl _ _, rfl, fun j _ _ u _ => ⟨trivial, trivial⟩⟩)
              simp [execOp, evS, h18, run_str b18, Result.andThen, go_sem]
            · have h15 : s 52 = .bool true := hd 15 (by decide +kernel)
              have h17 : s 54 = .string (str aa) := hd 17 (by decide +kernel)
              have h19 : s 56 = .string (str bb) := hd 19 (by decide +kernel)
              refine stepG_struck (b := true) (g := 15) (by rfl) h15 (stepS_run (v := .bool false) ?_ ⟨Below.refl _ _, rfl, fun j _ _ u _ => ⟨trivial, trivial⟩⟩)
              simp [execOp, evS, h17, h19, hb, Result.andThen, go_sem]
            · have h6 : s 43 = .bool false := hd 6 (by decide +kernel)
              have h15 : s 52 = .bool true := hd 15 (by decide +kernel)
              have h20 : s 57 = .bool false := hd 20 (by decide +kernel)
              refine stepG_struck (b := false) (g := 6) (by rfl) h6 (stepS_run (v := .bool false) ?_ ⟨Below.refl _ _, rfl, fun j _ _ u _ => ⟨trivial, trivial⟩⟩)
              simp [execOp, evS, h15, h20, Result.andThen, go_sem]
            · have h6 : s 43 = .bool false := hd 6 (by decide +kernel)
              have h9 : s 46 = .bool false := hd 9 (by decide +kernel)
              have h21 : s 58 = .bool false := hd 21 (by decide +kernel)
              refine stepG_struck (b := false) (g := 6) (by rfl) h6 (stepS_run (v := .bool true) ?_ ⟨Below.refl _ _, rfl, fun j _ _ u _ => ⟨trivial, trivial⟩⟩)
              simp [execOp, evS, h9, h21, Result.andThen, go_sem]
            · have h6 : s 43 = .bool false := hd 6 (by decide +kernel)
              have h22 : s 59 = .bool true := hd 22 (by decide +kernel)
              refine stepG_plain (by rfl) (stepS_run (v := .bool true) ?_ ⟨Below.refl _ _, rfl, fun j _ _ u _ => ⟨trivial, trivial⟩⟩)
              simp [execOp, evS, h6, h22, Result.andThen, go_sem]
            · have h23 : s 60 = .bool true := hd 23 (by decide +kernel)
              exact stepG_plain (by rfl) (stepS_assign _ rfl ⟨Below.refl _ _, h23, fun j _ _ u _ => ⟨trivial, trivial⟩⟩)
          intro s w9 hB hF _
          have h4 : s 6 = .bool true := hF 24 (by decide)
          refine wpAny_end (by kernel_rfl) ?_
          simp only [setAll, List.foldl_cons, List.foldl_nil, List.setIfInBounds_toArray, List.set_cons_succ, List.set_cons_zero, h4]
          clear hF h4
          try clear hkq
          try clear hdd
          try clear heq
          try clear hk
          try clear hb
          go_wp2_with fail
          go_ret
          exact ⟨rfl, hB.1.below⟩
      · have hkq : ((k1.toNat : Int) == (k2.toNat : Int)) = false := by
          rw [beq_eq_false_iff_ne]
          intro h
          exact hk (UInt8.toNat_inj.1 (by omega))
        have hd : dd = false := by rw [hdd]; simp [hk]
        subst hd
        refine wp_region_front 25 [37, 38, 39, 40, 41, 42, 43, 44, 45, 46, 47, 48, 49, 50, 51, 52, 53, 54, 55, 56, 57, 58, 59, 60, 6] 0 #[true, true, true, true, true, true, true, true, true, true, true, true, true, true, true, true, true, true, true, true, true, true, true, true, true] (fun W => Rows w [(p9, P2), (p7, P1), (xb, [.int .u8 (k1.toNat : Int), .int .u8 (k2.toNat : Int)])] W ∧ Bs W (.slice A n c) aa ∧ Bs W (.slice A2 n2 c2) bb) (apC3 xb k1 k2 P1 P2 aa bb) yesP (by kernel_rfl) (by kernel_rfl) (by kernel_rfl) (by kernel_rfl) (by kernel_rfl) (fun _ _ hb h => ⟨h.1.go hb, h.2.1.below hb, h.2.2.below hb⟩) apC3_below ⟨hR.drew, hX9.below (Below.refl _ _).drew, hY9.below (Below.refl _ _).drew⟩ ?_ ?_
        · intro i hi s w9 hs hB hd
          have s0 : s 0 = .slice A n c := hs 0 (by decide)
          have s1 : s 1 = .slice A2 n2 c2 := hs 1 (by decide)
          have s5 : s 5 = .pointer (some ⟨xb, 0, none⟩) := hs 5 (by decide)
          have s7 : s 7 = .pointer (some ⟨p7, 0, none⟩) := hs 7 (by decide)
          have s8 : s 8 = .int .i64 0 := hs 8 (by decide)
          have s9 : s 9 = .pointer (some ⟨p9, 0, none⟩) := hs 9 (by decide)
          have s10 : s 10 = .int .i64 0 := hs 10 (by decide)
          have hAx := hB.1.get (b := xb) (L := [.int .u8 (k1.toNat : Int), .int .u8 (k2.toNat : Int)]) (by simp)
          have hc0 := hAx.at_ 0 _ rfl
          have hc1 := hAx.at_ 1 _ rfl
          obtain rfl | rfl | rfl | rfl | rfl | rfl | rfl | rfl | rfl | rfl | rfl | rfl | rfl | rfl | rfl | rfl | rfl | rfl | rfl | rfl | rfl | rfl | rfl | rfl | rfl : i = 0 ∨ i = 1 ∨ i = 2 ∨ i = 3 ∨ i = 4 ∨ i = 5 ∨ i = 6 ∨ i = 7 ∨ i = 8 ∨ i = 9 ∨ i = 10 ∨ i = 11 ∨ i = 12 ∨ i = 13 ∨ i = 14 ∨ i = 15 ∨ i = 16 ∨ i = 17 ∨ i = 18 ∨ i = 19 ∨ i = 20 ∨ i = 21 ∨ i = 22 ∨ i = 23 ∨ i = 24 := by omega
          · exact stepG_plain (by rfl) (stepS_move _ rfl ⟨Below.refl _ _, s8, fun j _ _ u _ => ⟨trivial, trivial⟩⟩)
          · have h0 : s 37 = .int .i64 0 := hd 0 (by decide +kernel)
            refine stepG_plain (by rfl) (stepS_run (v := .bool false) ?_ ⟨Below.refl _ _, rfl, fun j _ _ u _ => ⟨trivial, trivial⟩⟩)
            simp [execOp, evS, h0, Result.andThen, go_sem]
          · have h1 : s 38 = .bool false := hd 1 (by decide +kernel)
            exact stepG_plain (by rfl) (stepS_move _ rfl ⟨Below.refl _ _, h1, fun j _ _ u _ => ⟨trivial, trivial⟩⟩)
          · have h2 : s 39 = .bool false := hd 2 (by decide +kernel)
            exact stepG_struck (b := false) (g := 2) (by rfl) h2 (stepS_move _ rfl ⟨Below.refl _ _, s10, fun j _ _ u _ => ⟨trivial, trivial⟩⟩)
          · have h2 : s 39 = .bool false := hd 2 (by decide +kernel)
            have h3 : s 40 = .int .i64 0 := hd 3 (by decide +kernel)
            refine stepG_struck (b := false) (g := 2) (by rfl) h2 (stepS_run (v := .bool false) ?_ ⟨Below.refl _ _, rfl, fun j _ _ u _ => ⟨trivial, trivial⟩⟩)
            simp [execOp, evS, h3, Result.andThen, go_sem]
          · have h2 : s 39 = .bool false := hd 2 (by decide +kernel)
            have h4 : s 41 = .bool false := hd 4 (by decide +kernel)
            refine stepG_plain (by rfl) (stepS_run (v := .bool false) ?_ ⟨Below.refl _ _, rfl, fun j _ _ u _ => ⟨trivial, trivial⟩⟩)
            simp [execOp, evS, h2, h4, Result.andThen, go_sem]
          · have h5 : s 42 = .bool false := hd 5 (by decide +kernel)
            exact stepG_plain (by rfl) (stepS_move _ rfl ⟨Below.refl _ _, h5, fun j _ _ u _ => ⟨trivial, trivial⟩⟩)
          · have h6 : s 43 = .bool false := hd 6 (by decide +kernel)
            exact stepG_struck (b := false) (g := 6) (by rfl) h6 (stepS_load rfl s7 (hB.1.get (by simp)) Try.underlying26 rfl HI1.out ⟨Below.refl _ _, rfl, fun j _ _ u _ => ⟨trivial, trivial⟩⟩)
          · have h6 : s 43 = .bool false := hd 6 (by decide +kernel)
            exact stepG_struck (b := false) (g := 6) (by rfl) h6 (stepS_load rfl s9 (hB.1.get (by simp)) Try.underlying26 rfl HI2.out ⟨Below.refl _ _, rfl, fun j _ _ u _ => ⟨trivial, trivial⟩⟩)
          · have h6 : s 43 = .bool false := hd 6 (by decide +kernel)
            have h7 : s 44 = .agg P1.toArray := hd 7 (by decide +kernel)
            have h8 : s 45 = .agg P2.toArray := hd 8 (by decide +kernel)
            refine stepG_struck (b := false) (g := 6) (by rfl) h6 (stepS_run (v := .bool false) ?_ ⟨Below.refl _ _, rfl, fun j _ _ u _ => ⟨trivial, trivial⟩⟩)
            simp [execOp, evS, h7, h8, hgd, heq, Result.andThen, go_sem]
          · have h6 : s 43 = .bool false := hd 6 (by decide +kernel)
            refine stepG_struck (b := false) (g := 6) (by rfl) h6 (stepS_run (v := .pointer (some ⟨xb, 0, none⟩)) ?_ ⟨Below.refl _ _, rfl, fun j _ _ u _ => ⟨trivial, trivial⟩⟩)
            simp [execOp, evS, s5, Result.andThen, go_sem]
          · have h6 : s 43 = .bool false := hd 6 (by decide +kernel)
            have h10 : s 47 = .pointer (some ⟨xb, 0, none⟩) := hd 10 (by decide +kernel)
            refine stepG_struck (b := false) (g := 6) (by rfl) h6 (stepS_run (v := .int .u8 (k1.toNat : Int)) ?_ ⟨Below.refl _ _, rfl, fun j _ _ u _ => ⟨trivial, trivial⟩⟩)
            simp [execOp, evS, h10, hc0, Result.andThen, go_sem]
          · have h6 : s 43 = .bool false := hd 6 (by decide +kernel)
            refine stepG_struck (b := false) (g := 6) (by rfl) h6 (stepS_run (v := .pointer (some ⟨xb, 1, none⟩)) ?_ ⟨Below.refl _ _, rfl, fun j _ _ u _ => ⟨trivial, trivial⟩⟩)
            simp [execOp, evS, s5, Result.andThen, go_sem]
          · have h6 : s 43 = .bool false := hd 6 (by decide +kernel)
            have h12 : s 49 = .pointer (some ⟨xb, 1, none⟩) := hd 12 (by decide +kernel)
            refine stepG_struck (b := false) (g := 6) (by rfl) h6 (stepS_run (v := .int .u8 (k2.toNat : Int)) ?_ ⟨Below.refl _ _, rfl, fun j _ _ u _ => ⟨trivial, trivial⟩⟩)
            simp [execOp, evS, h12, hc1, Result.andThen, go_sem]
          · have h6 : s 43 = .bool false := hd 6 (by decide +kernel)
            have h11 : s 48 = .int .u8 (k1.toNat : Int) := hd 11 (by decide +kernel)
            have h13 : s 50 = .int .u8 (k2.toNat : Int) := hd 13 (by decide +kernel)
            refine stepG_struck (b := false) (g := 6) (by rfl) h6 (stepS_run (v := .bool false) ?_ ⟨Below.refl _ _, rfl, fun j _ _ u _ => ⟨trivial, trivial⟩⟩)
            simp [execOp, evS, h11, h13, hkq, Result.andThen, go_sem]
          · have h6 : s 43 = .bool false := hd 6 (by decide +kernel)
            have h14 : s 51 = .bool false := hd 14 (by decide +kernel)
            exact stepG_struck (b := false) (g := 6) (by rfl) h6 (stepS_move _ rfl ⟨Below.refl _ _, h14, fun j _ _ u _ => ⟨trivial, trivial⟩⟩)
          · have h15 : s 52 = .bool false := hd 15 (by decide +kernel)
            exact stepG_not (b := true) (g := 15) (by rfl) h15 ⟨Below.refl _ _, rfl, fun j _ _ u _ => ⟨trivial, trivial⟩⟩
          · have h15 : s 52 = .bool false := hd 15 (by decide +kernel)
            exact stepG_not (b := true) (g := 15) (by rfl) h15 ⟨Below.refl _ _, rfl, fun j _ _ u _ => ⟨trivial, trivial⟩⟩
          · have h15 : s 52 = .bool false := hd 15 (by decide +kernel)
            exact stepG_not (b := true) (g := 15) (by rfl) h15 ⟨Below.refl _ _, rfl, fun j _ _ u _ => ⟨trivial, trivial⟩⟩
          · have h15 : s 52 = .bool false := hd 15 (by decide +kernel)
            exact stepG_not (b := true) (g := 15) (by rfl) h15 ⟨Below.refl _ _, rfl, fun j _ _ u _ => ⟨trivial, trivial⟩⟩
          · have h15 : s 52 = .bool false := hd 15 (by decide +kernel)
            exact stepG_not (b := true) (g := 15) (by rfl) h15 ⟨Below.refl _ _, rfl, fun j _ _ u _ => ⟨trivial, trivial⟩⟩
          · have h6 : s 43 = .bool false := hd 6 (by decide +kernel)
            have h15 : s 52 = .bool false := hd 15 (by decide +kernel)
            have h20 : s 57 = undef := hd 20 (by decide +kernel)
            refine stepG_struck (b := false) (g := 6) (by rfl) h6 (stepS_run (v := .bool false) ?_ ⟨Below.refl _ _, rfl, fun j _ _ u _ => ⟨trivial, trivial⟩⟩)
            simp [execOp, evS, h15, h20, Result.andThen, go_sem]
          · have h6 : s 43 = .bool false := hd 6 (by decide +kernel)
            have h9 : s 46 = .bool false := hd 9 (by decide +kernel)
            have h21 : s 58 = .bool false := hd 21 (by decide +kernel)
            refine stepG_struck (b := false) (g := 6) (by rfl) h6 (stepS_run (v := .bool true) ?_ ⟨Below.refl _ _, rfl, fun j _ _ u _ => ⟨trivial, trivial⟩⟩)
            simp [execOp, evS, h9, h21, Result.andThen, go_sem]
          · have h6 : s 43 = .bool false := hd 6 (by decide +kernel)
            have h22 : s 59 = .bool true := hd 22 (by decide +kernel)
            refine stepG_plain (by rfl) (stepS_run (v := .bool true) ?_ ⟨Below.refl _ _, rfl, fun j _ _ u _ => ⟨trivial, trivial⟩⟩)
            simp [execOp, evS, h6, h22, Result.andThen, go_sem]
          · have h23 : s 60 = .bool true := hd 23 (by decide +kernel)
            exact stepG_plain (by rfl) (stepS_assign _ rfl ⟨Below.refl _ _, h23, fun j _ _ u _ => ⟨trivial, trivial⟩⟩)
        intro s w9 hB hF _
        have h4 : s 6 = .bool true := hF 24 (by decide)
        refine wpAny_end (by kernel_rfl) ?_
        simp only [setAll, List.foldl_cons, List.foldl_nil, List.setIfInBounds_toArray, List.set_cons_succ, List.set_cons_zero, h4]
        clear hF h4
        try clear hkq
        try clear hdd
        try clear heq
        try clear hk
        try clear hb
        go_wp2_with fail
        go_ret
        exact ⟨rfl, hB.1.below⟩
    · subst e1 e2
      refine wp_region_front 25 [37, 38, 39, 40, 41, 42, 43, 44, 45, 46, 47, 48, 49, 50, 51, 52, 53, 54, 55, 56, 57, 58, 59, 60, 6] 0 #[true, true, true, true, true, true, true, true, true, true, true, true, true, true, true, true, true, true, true, true, true, true, true, true, true] (fun W => Rows w [(p9, P2), (p7, P1), (xb, [.int .u8 (k1.toNat : Int), .int .u8 (k2.toNat : Int)])] W ∧ Bs W (.slice A n c) aa ∧ Bs W (.slice A2 n2 c2) bb) (apB xb k1 k2 P1 P2 aa bb) yesP (by kernel_rfl) (by kernel_rfl) (by kernel_rfl) (by kernel_rfl) (by kernel_rfl) (fun _ _ hb h => ⟨h.1.go hb, h.2.1.below hb, h.2.2.below hb⟩) apB_below ⟨hR.drew, hX9.below (Below.refl _ _).drew, hY9.below (Below.refl _ _).drew⟩ ?_ ?_
      · intro i hi s w9 hs hB hd
        have s0 : s 0 = .slice A n c := hs 0 (by decide)
        have s1 : s 1 = .slice A2 n2 c2 := hs 1 (by decide)
        have s5 : s 5 = .pointer (some ⟨xb, 0, none⟩) := hs 5 (by decide)
        have s7 : s 7 = .pointer (some ⟨p7, 0, none⟩) := hs 7 (by decide)
        have s8 : s 8 = .int .i64 0 := hs 8 (by decide)
        have s9 : s 9 = .pointer (some ⟨p9, 0, none⟩) := hs 9 (by decide)
        have s10 : s 10 = .int .i64 1 := hs 10 (by decide)
        have hAx := hB.1.get (b := xb) (L := [.int .u8 (k1.toNat : Int), .int .u8 (k2.toNat : Int)]) (by simp)
        have hc0 := hAx.at_ 0 _ rfl
        have hc1 := hAx.at_ 1 _ rfl
        obtain rfl | rfl | rfl | rfl | rfl | rfl | rfl | rfl | rfl | rfl | rfl | rfl | rfl | rfl | rfl | rfl | rfl | rfl | rfl | rfl | rfl | rfl | rfl | rfl | rfl : i = 0 ∨ i = 1 ∨ i = 2 ∨ i = 3 ∨ i = 4 ∨ i = 5 ∨ i = 6 ∨ i = 7 ∨ i = 8 ∨ i = 9 ∨ i = 10 ∨ i = 11 ∨ i = 12 ∨ i = 13 ∨ i = 14 ∨ i = 15 ∨ i = 16 ∨ i = 17 ∨ i = 18 ∨ i = 19 ∨ i = 20 ∨ i = 21 ∨ i = 22 ∨ i = 23 ∨ i = 24 := by omega
        · exact stepG_plain (by rfl) (stepS_move _ rfl ⟨Below.refl _ _, s8, fun j _ _ u _ => ⟨trivial, trivial⟩⟩)
        · have h0 : s 37 = .int .i64 0 := hd 0 (by decide +kernel)
          refine stepG_plain (by rfl) (stepS_run (v := .bool false) ?_ ⟨Below.refl _ _, rfl, fun j _ _ u _ => ⟨trivial, trivial⟩⟩)
          simp [execOp, evS, h0, Result.andThen, go_sem]
        · have h1 : s 38 = .bool false := hd 1 (by decide +kernel)
          exact stepG_plain (by rfl) (stepS_move _ rfl ⟨Below.refl _ _, h1, fun j _ _ u _ => ⟨trivial, trivial⟩⟩)
        · have h2 : s 39 = .bool false := hd 2 (by decide +kernel)
          exact stepG_struck (b := false) (g := 2) (by rfl) h2 (stepS_move _ rfl ⟨Below.refl _ _, s10, fun j _ _ u _ => ⟨trivial, trivial⟩⟩)
        · have h2 : s 39 = .bool false := hd 2 (by decide +kernel)
          have h3 : s 40 = .int .i64 1 := hd 3 (by decide +kernel)
          refine stepG_struck (b := false) (g := 2) (by rfl) h2 (stepS_run (v := .bool true) ?_ ⟨Below.refl _ _, rfl, fun j _ _ u _ => ⟨trivial, trivial⟩⟩)
          simp [execOp, evS, h3, Result.andThen, go_sem]
        · have h2 : s 39 = .bool false := hd 2 (by decide +kernel)
          have h4 : s 41 = .bool true := hd 4 (by decide +kernel)
          refine stepG_plain (by rfl) (stepS_run (v := .bool true) ?_ ⟨Below.refl _ _, rfl, fun j _ _ u _ => ⟨trivial, trivial⟩⟩)
          simp [execOp, evS, h2, h4, Result.andThen, go_sem]
        · have h5 : s 42 = .bool true := hd 5 (by decide +kernel)
          exact stepG_plain (by rfl) (stepS_move _ rfl ⟨Below.refl _ _, h5, fun j _ _ u _ => ⟨trivial, trivial⟩⟩)
        · have h6 : s 43 = .bool true := hd 6 (by decide +kernel)
          exact stepG_not (b := false) (g := 6) (by rfl) h6 ⟨Below.refl _ _, rfl, fun j _ _ u _ => ⟨trivial, trivial⟩⟩
        · have h6 : s 43 = .bool true := hd 6 (by decide +kernel)
          exact stepG_not (b := false) (g := 6) (by rfl) h6 ⟨Below.refl _ _, rfl, fun j _ _ u _ => ⟨trivial, trivial⟩⟩
        · have h6 : s 43 = .bool true := hd 6 (by decide +kernel)
          exact stepG_not (b := false) (g := 6) (by rfl) h6 ⟨Below.refl _ _, rfl, fun j _ _ u _ => ⟨trivial, trivial⟩⟩
        · have h6 : s 43 = .bool true := hd 6 (by decide +kernel)
          exact stepG_not (b := false) (g := 6) (by rfl) h6 ⟨Below.refl _ _, rfl, fun j _ _ u _ => ⟨trivial, trivial⟩⟩
        · have h6 : s 43 = .bool true := hd 6 (by decide +kernel)
          exact stepG_not (b := false) (g := 6) (by rfl) h6 ⟨Below.refl _ _, rfl, fun j _ _ u _ => ⟨trivial, trivial⟩⟩
        · have h6 : s 43 = .bool true := hd 6 (by decide +kernel)
          exact stepG_not (b := false) (g := 6) (by rfl) h6 ⟨Below.refl _ _, rfl, fun j _ _ u _ => ⟨trivial, trivial⟩⟩
        · have h6 : s 43 = .bool true := hd 6 (by decide +kernel)
          exact stepG_not (b := false) (g := 6) (by rfl) h6 ⟨Below.refl _ _, rfl, fun j _ _ u _ => ⟨trivial, trivial⟩⟩
        · have h6 : s 43 = .bool true := hd 6 (by decide +kernel)
          exact stepG_not (b := false) (g := 6) (by rfl) h6 ⟨Below.refl _ _, rfl, fun j _ _ u _ => ⟨trivial, trivial⟩⟩
        · have h6 : s 43 = .bool true := hd 6 (by decide +kernel)
          exact stepG_not (b := false) (g := 6) (by rfl) h6 ⟨Below.refl _ _, rfl, fun j _ _ u _ => ⟨trivial, trivial⟩⟩
        · have h15 : s 52 = undef := hd 15 (by decide +kernel)
          exact stepG_undef (b := true) (g := 15) (by rfl) h15 ⟨Below.refl _ _, rfl, fun j _ _ u _ => ⟨trivial, trivial⟩⟩
        · have h15 : s 52 = undef := hd 15 (by decide +kernel)
          exact stepG_undef (b := true) (g := 15) (by rfl) h15 ⟨Below.refl _ _, rfl, fun j _ _ u _ => ⟨trivial, trivial⟩⟩
        · have h15 : s 52 = undef := hd 15 (by decide +kernel)
          exact stepG_undef (b := true) (g := 15) (by rfl) h15 ⟨Below.refl _ _, rfl, fun j _ _ u _ => ⟨trivial, trivial⟩⟩
        · have h15 : s 52 = undef := hd 15 (by decide +kernel)
          exact stepG_undef (b := true) (g := 15) (by rfl) h15 ⟨Below.refl _ _, rfl, fun j _ _ u _ => ⟨trivial, trivial⟩⟩
        · have h15 : s 52 = undef := hd 15 (by decide +kernel)
          exact stepG_undef (b := true) (g := 15) (by rfl) h15 ⟨Below.refl _ _, rfl, fun j _ _ u _ => ⟨trivial, trivial⟩⟩
        · have h6 : s 43 = .bool true := hd 6 (by decide +kernel)
          exact stepG_not (b := false) (g := 6) (by rfl) h6 ⟨Below.refl _ _, rfl, fun j _ _ u _ => ⟨trivial, trivial⟩⟩
        · have h6 : s 43 = .bool true := hd 6 (by decide +kernel)
          exact stepG_not (b := false) (g := 6) (by rfl) h6 ⟨Below.refl _ _, rfl, fun j _ _ u _ => ⟨trivial, trivial⟩⟩
        · have h6 : s 43 = .bool true := hd 6 (by decide +kernel)
          have h22 : s 59 = undef := hd 22 (by decide +kernel)
          refine stepG_plain (by rfl) (stepS_run (v := .bool true) ?_ ⟨Below.refl _ _, rfl, fun j _ _ u _ => ⟨trivial, trivial⟩⟩)
          simp [execOp, evS, h6, h22, Result.andThen, go_sem]
        · have h23 : s 60 = .bool true := hd 23 (by decide +kernel)
          exact stepG_plain (by rfl) (stepS_assign _ rfl ⟨Below.refl _ _, h23, fun j _ _ u _ => ⟨trivial, trivial⟩⟩)
      intro s w9 hB hF _
      have h4 : s 6 = .bool true := hF 24 (by decide)
      refine wpAny_end (by kernel_rfl) ?_
      simp only [setAll, List.foldl_cons, List.foldl_nil, List.setIfInBounds_toArray, List.set_cons_succ, List.set_cons_zero, h4]
      clear hF h4
      try clear hkq
      try clear hdd
      try clear heq
      try clear hk
      try clear hb
      go_wp2_with fail
      go_ret
      exact ⟨rfl, hB.1.below⟩
  · subst e1
    clear HE2
    refine wp_region_front 25 [37, 38, 39, 40, 41, 42, 43, 44, 45, 46, 47, 48, 49, 50, 51, 52, 53, 54, 55, 56, 57, 58, 59, 60, 6] 0 #[true, true, true, true, true, true, true, true, true, true, true, true, true, true, true, true, true, true, true, true, true, true, true, true, true] (fun W => Rows w [(p9, P2), (p7, P1), (xb, [.int .u8 (k1.toNat : Int), .int .u8 (k2.toNat : Int)])] W ∧ Bs W (.slice A n c) aa ∧ Bs W (.slice A2 n2 c2) bb) (apA xb k1 k2 P1 P2 aa bb) yesP (by kernel_rfl) (by kernel_rfl) (by kernel_rfl) (by kernel_rfl) (by kernel_rfl) (fun _ _ hb h => ⟨h.1.go hb, h.2.1.below hb, h.2.2.below hb⟩) apA_below ⟨hR.drew, hX9.below (Below.refl _ _).drew, hY9.below (Below.refl _ _).drew⟩ ?_ ?_
    · intro i hi s w9 hs hB hd
      have s0 : s 0 = .slice A n c := hs 0 (by decide)
      have s1 : s 1 = .slice A2 n2 c2 := hs 1 (by decide)
      have s5 : s 5 = .pointer (some ⟨xb, 0, none⟩) := hs 5 (by decide)
      have s7 : s 7 = .pointer (some ⟨p7, 0, none⟩) := hs 7 (by decide)
      have s8 : s 8 = .int .i64 1 := hs 8 (by decide)
      have s9 : s 9 = .pointer (some ⟨p9, 0, none⟩) := hs 9 (by decide)
      have s10 : s 10 = .int .i64 (E2 : Int) := hs 10 (by decide)
      have hAx := hB.1.get (b := xb) (L := [.int .u8 (k1.toNat : Int), .int .u8 (k2.toNat : Int)]) (by simp)
      have hc0 := hAx.at_ 0 _ rfl
      have hc1 := hAx.at_ 1 _ rfl
      obtain rfl | rfl | rfl | rfl | rfl | rfl | rfl | rfl | rfl | rfl | rfl | rfl | rfl | rfl | rfl | rfl | rfl | rfl | rfl | rfl | rfl | rfl | rfl | rfl | rfl : i = 0 ∨ i = 1 ∨ i = 2 ∨ i = 3 ∨ i = 4 ∨ i = 5 ∨ i = 6 ∨ i = 7 ∨ i = 8 ∨ i = 9 ∨ i = 10 ∨ i = 11 ∨ i = 12 ∨ i = 13 ∨ i = 14 ∨ i = 15 ∨ i = 16 ∨ i = 17 ∨ i = 18 ∨ i = 19 ∨ i = 20 ∨ i = 21 ∨ i = 22 ∨ i = 23 ∨ i = 24 := by omega
      · exact stepG_plain (by rfl) (stepS_move _ rfl ⟨Below.refl _ _, s8, fun j _ _ u _ => ⟨trivial, trivial⟩⟩)
      · have h0 : s 37 = .int .i64 1 := hd 0 (by decide +kernel)
        refine stepG_plain (by rfl) (stepS_run (v := .bool true) ?_ ⟨Below.refl _ _, rfl, fun j _ _ u _ => ⟨trivial, trivial⟩⟩)
        simp [execOp, evS, h0, Result.andThen, go_sem]
      · have h1 : s 38 = .bool true := hd 1 (by decide +kernel)
        exact stepG_plain (by rfl) (stepS_move _ rfl ⟨Below.refl _ _, h1, fun j _ _ u _ => ⟨trivial, trivial⟩⟩)
      · have h2 : s 39 = .bool true := hd 2 (by decide +kernel)
        exact stepG_not (b := false) (g := 2) (by rfl) h2 ⟨Below.refl _ _, rfl, fun j _ _ u _ => ⟨trivial, trivial⟩⟩
      · have h2 : s 39 = .bool true := hd 2 (by decide +kernel)
        exact stepG_not (b := false) (g := 2) (by rfl) h2 ⟨Below.refl _ _, rfl, fun j _ _ u _ => ⟨trivial, trivial⟩⟩
      · have h2 : s 39 = .bool true := hd 2 (by decide +kernel)
        have h4 : s 41 = undef := hd 4 (by decide +kernel)
        refine stepG_plain (by rfl) (stepS_run (v := .bool true) ?_ ⟨Below.refl _ _, rfl, fun j _ _ u _ => ⟨trivial, trivial⟩⟩)
        simp [execOp, evS, h2, h4, Result.andThen, go_sem]
      · have h5 : s 42 = .bool true := hd 5 (by decide +kernel)
        exact stepG_plain (by rfl) (stepS_move _ rfl ⟨Below.refl _ _, h5, fun j _ _ u _ => ⟨trivial, trivial⟩⟩)
      · have h6 : s 43 = .bool true := hd 6 (by decide +kernel)
        exact stepG_not (b := false) (g := 6) (by rfl) h6 ⟨Below.refl _ _, rfl, fun j _ _ u _ => ⟨trivial, trivial⟩⟩
      · have h6 : s 43 = .bool true := hd 6 (by decide +kernel)
        exact stepG_not (b := false) (g := 6) (by rfl) h6 ⟨Below.refl _ _, rfl, fun j _ _ u _ => ⟨trivial, trivial⟩⟩
      · have h6 : s 43 = .bool true := hd 6 (by decide +kernel)
        exact stepG_not (b := false) (g := 6) (by rfl) h6 ⟨Below.refl _ _, rfl, fun j _ _ u _ => ⟨trivial, trivial⟩⟩
      · have h6 : s 43 = .bool true := hd 6 (by decide +kernel)
        exact stepG_not (b := false) (g := 6) (by rfl) h6 ⟨Below.refl _ _, rfl, fun j _ _ u _ => ⟨trivial, trivial⟩⟩
      · have h6 : s 43 = .bool true := hd 6 (by decide +kernel)
        exact stepG_not (b := false) (g := 6) (by rfl) h6 ⟨Below.refl _ _, rfl, fun j _ _ u _ => ⟨trivial, trivial⟩⟩
      · have h6 : s 43 = .bool true := hd 6 (by decide +kernel)
        exact stepG_not (b := false) (g := 6) (by rfl) h6 ⟨Below.refl _ _, rfl, fun j _ _ u _ => ⟨trivial, trivial⟩⟩
      · have h6 : s 43 = .bool true := hd 6 (by decide +kernel)
        exact stepG_not (b := false) (g := 6) (by rfl) h6 ⟨Below.refl _ _, rfl, fun j _ _ u _ => ⟨trivial, trivial⟩⟩
      · have h6 : s 43 = .bool true := hd 6 (by decide +kernel)
        exact stepG_not (b := false) (g := 6) (by rfl) h6 ⟨Below.refl _ _, rfl, fun j _ _ u _ => ⟨trivial, trivial⟩⟩
      · have h6 : s 43 = .bool true := hd 6 (by decide +kernel)
        exact stepG_not (b := false) (g := 6) (by rfl) h6 ⟨Below.refl _ _, rfl, fun j _ _ u _ => ⟨trivial, trivial⟩⟩
      · have h15 : s 52 = undef := hd 15 (by decide +kernel)
        exact stepG_undef (b := true) (g := 15) (by rfl) h15 ⟨Below.refl _ _, rfl, fun j _ _ u _ => ⟨trivial, trivial⟩⟩
      · have h15 : s 52 = undef := hd 15 (by decide +kernel)
        exact stepG_undef (b := true) (g := 15) (by rfl) h15 ⟨Below.refl _ _, rfl, fun j _ _ u _ => ⟨trivial, trivial⟩⟩
      · have h15 : s 52 = undef := hd 15 (by decide +kernel)
        exact stepG_undef (b := true) (g := 15) (by rfl) h15 ⟨Below.refl _ _, rfl, fun j _ _ u _ => ⟨trivial, trivial⟩⟩
      · have h15 : s 52 = undef := hd 15 (by decide +kernel)
        exact stepG_undef (b := true) (g := 15) (by rfl) h15 ⟨Below.refl _ _, rfl, fun j _ _ u _ => ⟨trivial, trivial⟩⟩
      · have h15 : s 52 = undef := hd 15 (by decide +kernel)
        exact stepG_undef (b := true) (g := 15) (by rfl) h15 ⟨Below.refl _ _, rfl, fun j _ _ u _ => ⟨trivial, trivial⟩⟩
      · have h6 : s 43 = .bool true := hd 6 (by decide +kernel)
        exact stepG_not (b := false) (g := 6) (by rfl) h6 ⟨Below.refl _ _, rfl, fun j _ _ u _ => ⟨trivial, trivial⟩⟩
      · have h6 : s 43 = .bool true := hd 6 (by decide +kernel)
        exact stepG_not (b := false) (g := 6) (by rfl) h6 ⟨Below.refl _ _, rfl, fun j _ _ u _ => ⟨trivial, trivial⟩⟩
      · have h6 : s 43 = .bool true := hd 6 (by decide +kernel)
        have h22 : s 59 = undef := hd 22 (by decide +kernel)
        refine stepG_plain (by rfl) (stepS_run (v := .bool true) ?_ ⟨Below.refl _ _, rfl, fun j _ _ u _ => ⟨trivial, trivial⟩⟩)
        simp [execOp, evS, h6, h22, Result.andThen, go_sem]
      · have h23 : s 60 = .bool true := hd 23 (by decide +kernel)
        exact stepG_plain (by rfl) (stepS_assign _ rfl ⟨Below.refl _ _, h23, fun j _ _ u _ => ⟨trivial, trivial⟩⟩)
    intro s w9 hB hF _
    have h4 : s 6 = .bool true := hF 24 (by decide)
    refine wpAny_end (by kernel_rfl) ?_
    simp only [setAll, List.foldl_cons, List.foldl_nil, List.setIfInBounds_toArray, List.set_cons_succ, List.set_cons_zero, h4]
    clear hF h4
    try clear hkq
    try clear hdd
    try clear heq
    try clear hk
    try clear hb
    go_wp2_with fail
    go_ret
    exact ⟨rfl, hB.1.below⟩
theorem two_of (ks : List UInt8) (h : ks.length = 2) : ∃ a b, ks = [a, b] := by
  match ks, h with
  | [a, b], _ => exact ⟨a, b, rfl⟩
theorem frameApart_row (A : Option Addr) (n c : Nat) (aa : List UInt8) (A2 : Option Addr) (n2 c2 : Nat) (bb : List UInt8) (ks : List UInt8) (w : World) (hX : Bs w (.slice A n c) aa) (hY : Bs w (.slice A2 n2 c2) bb) (hk : ks.length = 2) :
    Calls Try.prog 3 #[.slice A n c, .slice A2 n2 c2, .agg (ks.map encB).toArray] w fun e w' => e = .returned (.bool true) ∧ Below w.heap.size w w' := by
  obtain ⟨a, b, rfl⟩ := two_of ks hk
  exact frameApart_walk A n c aa A2 n2 c2 bb a b w hX hY
end Go.Proofs.YtljdfhckllncoaaK

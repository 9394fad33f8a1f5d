import Derived.Test.YtljdfhckllncoaaKCmtR
import Derived.Test.YtljdfhckllncoaaKNodeW
namespace Go.Proofs.YtljdfhckllncoaaK
open Go.RowKit
set_option linter.unusedSimpArgs false
set_option linter.unusedVariables false
theorem rc_back (bs : List UInt8) (hl : bs.length = 44) : cmtB (rcE bs) (bs.drop 12) (rcS bs) = bs := by
  unfold cmtB rcE rcS
  have h1 := numB_numV (bs.take 8)
  have h2 := numB_numV ((bs.drop 8).take 4)
  rw [show (bs.take 8).length = 8 from by simp [hl]] at h1
  rw [show ((bs.drop 8).take 4).length = 4 from by simp [hl]] at h2
  rw [h1, h2, show bs.drop 12 = (bs.drop 8).drop 4 from by rw [List.drop_drop], List.take_append_drop, List.take_append_drop]
theorem rc_of (e : Nat) (live : List UInt8) (s : Nat) (hl : live.length = 32) (he : e < 18446744073709551616) (hs : s < 4294967296) :
    rcE (cmtB e live s) = e ∧ rcS (cmtB e live s) = s ∧ (cmtB e live s).drop 12 = live := by
  have h8 : (numB 8 e).length = 8 := numB_length _ _
  have h4 : (numB 4 s).length = 4 := numB_length _ _
  unfold rcE rcS cmtB
  refine ⟨?_, ?_, ?_⟩
  · rw [List.take_append_of_le_length (by omega), List.take_of_length_le (by omega), numV_numB]; omega
  · rw [List.drop_append_of_le_length (by omega), List.drop_of_length_le (by omega), List.nil_append, List.take_append_of_le_length (by omega), List.take_of_length_le (by omega), numV_numB]; omega
  · rw [List.drop_append, List.drop_of_length_le (by omega), List.nil_append, h8, List.drop_append_of_le_length (by omega), List.drop_of_length_le (by omega), List.nil_append]
theorem rc_lt (bs : List UInt8) : rcE bs < 18446744073709551616 ∧ rcS bs < 4294967296 := by
  constructor
  · have h1 : (bs.take 8).length ≤ 8 := by rw [List.length_take]; omega
    exact Nat.lt_of_lt_of_le (numV_lt (bs.take 8)) (by have := Nat.pow_le_pow_right (n := 256) (by decide) h1; simpa using this)
  · have h1 : ((bs.drop 8).take 4).length ≤ 4 := by rw [List.length_take]; omega
    exact Nat.lt_of_lt_of_le (numV_lt ((bs.drop 8).take 4)) (by have := Nat.pow_le_pow_right (n := 256) (by decide) h1; simpa using this)
/-- A slice of bytes, that reads. -/
def BsV (bs : List UInt8) (v : Value) (w : World) : Prop := ∃ A n c, v = .slice A n c ∧ Bs w (.slice A n c) bs
theorem BsV.below {bs : List UInt8} {v : Value} {w w' : World} (h : BsV bs v w) (hb : Below w.heap.size w w') : BsV bs v w' := by
  obtain ⟨A, n, c, h1, h2⟩ := h; exact ⟨A, n, c, h1, h2.below hb⟩
def cmF (xb : Nat) (E S : Nat) (cb n8 n4 live : List UInt8) : Nat → Value → World → Prop
  | 0, v, w => BsV cb v w
  | 1, v, _ => v = .string (str cb)
  | 2, v, _ => v = .pointer (some ⟨xb, 0, none⟩)
  | 3, v, _ => v = .int .u64 (E : Int)
  | 4, v, w => BsV n8 v w
  | 5, v, _ => v = .string (str n8)
  | 6, v, _ => v = .pointer (some ⟨xb, 33, none⟩)
  | 7, v, _ => v = .int .u32 (S : Int)
  | 8, v, _ => v = .int .u64 (S : Int)
  | 9, v, w => BsV n4 v w
  | 10, v, _ => v = .string (str n4)
  | 11, v, _ => v = .string (str (n8 ++ n4))
  | 12, v, _ => v = .pointer (some ⟨xb, 1, none⟩)
  | 13, v, _ => v = .slice (some ⟨xb, 1, none⟩) 32 32
  | 14, v, _ => v = .string (str live)
  | 15, v, _ => v = .string (str cb)
  | 16, v, _ => v = .bool false
  | _, _, _ => False
theorem cmF_below {xb : Nat} {E S : Nat} {cb n8 n4 live : List UInt8} (i : Nat) (v : Value) (w w' : World) (hb : Below w.heap.size w w') (h : cmF xb E S cb n8 n4 live i v w) : cmF xb E S cb n8 n4 live i v w' := by
  match i with
  | 0 => exact BsV.below h hb
  | 4 => exact BsV.below h hb
  | 9 => exact BsV.below h hb
  | 1 | 2 | 3 | 5 | 6 | 7 | 8 | 10 | 11 | 12 | 13 | 14 | 15 | 16 => exact h
  | n + 17 => exact h
def yesP : Nat → Nat → Value → Value → Prop := fun _ _ _ _ => True
theorem str_append (a b : List UInt8) : str a ++ str b = str (a ++ b) := by
  unfold str
  apply ByteArray.ext
  simp
def cmG (M : List Value) (raw : List UInt8) : Nat → Value → World → Prop
  | 0, v, _ => v = .int .i64 0
  | 1, v, _ => v = .bool true
  | 2, v, _ => v = .bool true
  | 3, v, _ => v = .agg M.toArray
  | 4, v, w => BsV raw v w
  | 5, v, _ => v = .string (str raw)
  | 6, v, w => BsV raw v w
  | 7, v, _ => v = .string (str raw)
  | 8, v, _ => v = .bool true
  | 9, v, _ => v = .bool true
  | 10, v, _ => v = .bool true
  | _, _, _ => False
theorem cmG_below {M : List Value} {raw : List UInt8} (i : Nat) (v : Value) (w w' : World) (hb : Below w.heap.size w w') (h : cmG M raw i v w) : cmG M raw i v w' := by
  match i with
  | 4 => exact BsV.below h hb
  | 6 => exact BsV.below h hb
  | 0 | 1 | 2 | 3 | 5 | 7 | 8 | 9 | 10 => exact h
  | n + 11 => exact h
theorem bsV_own {B : Nat} {w : World} {v : Value} {n : Nat} {bs : List UInt8} (h : w.ownsRow B 5 1 v n (bs.map encB)) : BsV bs v w := by
  obtain ⟨hn, hb⟩ := own_bs h
  obtain ⟨A, c, rfl, _, _⟩ := own_form h
  exact ⟨A, n, c, rfl, hb⟩
set_option maxRecDepth 100000 in
set_option maxHeartbeats 8000000 in
theorem nodeCommits_walk (E : Nat) (live : List UInt8) (S : Nat) (A : Option Addr) (n c : Nat) (raw : List UInt8) (w : World) (hl : live.length = 32) (he : E < 18446744073709551616) (hs : S < 4294967296) (hX : Bs w (.slice A n c) raw) :
    Calls Try.prog 12 #[.agg (cmtL (E : Int) live (S : Int)).toArray, .slice A n c] w fun e w' => e = .returned (.bool true) ∧ Below w.heap.size w w' := by
  have HL := Lib.hid hX.len
  by_cases hg : 1000 < n
  · clear hX
    go_enter Try.func12, Try.ntmps12
    go_wp2_with (go_at_call 20; refine (node_speaks _).mono ?_; rintro e w1 ⟨rfl, hb1⟩)
    go_ret
    exact ⟨rfl, ((Below.refl w.heap.size w).alloc (Nat.le_refl _) _).trans (hb1.mono (by simp))⟩
  have HWc := Lib.hid (fun W => wcommit_any E live S W hl he hs)
  obtain ⟨hcE, hcS, hcL⟩ := rc_of E live S hl he hs
  have HRc := Lib.hid (fun A n c W h h44 => rcommit_ok A n c (cmtB E live S) W h h44)
  rw [hcE, hcS, hcL] at HRc
  have hcl := cmtB_length E live S hl
  have hcb : cmtB E live S = numB 8 E ++ (numB 4 S ++ live) := rfl
  have hN := fun W (s : Int) (N : Nat) h => refnum_any s N W h
  have HNum := Lib.hid hN
  obtain ⟨cb, hcbe⟩ : ∃ cb, cb = cmtB E live S := ⟨_, rfl⟩
  rw [← hcbe] at HWc HRc hcl hcb
  have hcells : ∀ e l s, cmtC e l s = (cmtL e l s).toArray := fun e l s => (cmtL_arr e l s).symm
  rw [hcells] at HWc
  have heq := fun w => commit_eql (E : Int) live (S : Int) (E : Int) live (S : Int) hl hl (by omega) (by omega) (by omega) (by omega) w
  rw [hcells] at heq
  simp only [and_self, decide_true] at heq
  have HEQ := Lib.hid heq
  obtain ⟨L, hL⟩ : ∃ L, L = cmtL (E : Int) live (S : Int) := ⟨_, rfl⟩
  rw [← hL] at HWc HRc HEQ ⊢
  have hLl : L.length = 34 := by rw [hL]; exact cmtL_length _ _ _ hl
  have h1L : ∀ v ∈ L, v.oneCell' = true := by rw [hL]; exact cmtL_one _ _ _
  have hL0 : L[0]? = some (.int .u64 (E : Int)) := by rw [hL]; rfl
  have hL33 : L[33]? = some (.int .u32 (S : Int)) := by
    rw [hL]; unfold cmtL
    rw [List.getElem?_append_right (by simp), List.getElem?_append_right (by simp [hl])]
    simp [hl]
  have hLj : ∀ j u, (live.map encB)[j]? = some u → L[1 + j]? = some u := fun j u hu => by
    rw [hL]; unfold cmtL
    have hj : j < 32 := by
      have := (List.getElem?_eq_some_iff.1 hu).1
      simpa [hl] using this
    rw [List.getElem?_append_right (by simp), List.getElem?_append_left (by simp [hl]; omega)]
    rw [show 1 + j - [Value.int .u64 (E : Int)].length = j from by simp]
    exact hu
  have HI := Lib.hid (show (Try.prog.info? 50).map (·.size) = some L.length by rw [hLl]; exact rc_info)
  have HIA := Lib.hid (show (Try.prog.info? 50).map (·.size) = some L.toArray.size by rw [List.size_toArray, hLl]; exact rc_info)
  have H1A : Hid (L.toArray.all (·.oneCell') = true) := Lib.hid (all_oneCell_toArray h1L)
  have hz := rc_zero
  obtain ⟨Z, hZ⟩ : ∃ Z, Z = cmt0L := ⟨_, rfl⟩
  rw [← hZ] at hz
  have HZE := Lib.hid hZ
  have hZl : Z.length = 34 := by rw [hZ]; exact cmtL_length _ _ _ (by decide)
  have HZL : Hid (L.toArray.size = Z.toArray.toList.length) := Lib.hid (by simp [hLl, hZl])
  have HZl := Lib.hid hZl
  have HL0 := Lib.hid hL0
  have HL33 := Lib.hid hL33
  have HLJ := Lib.hid hLj
  have HCB := Lib.hid hcb
  have HCL := Lib.hid hcl
  have HLL := Lib.hid hLl
  have HLV := Lib.hid hl
  have e2 : IntKind.u64.wrap (S : Int) = S := by rw [IntKind.wrap_u64]; omega
  have E2 := Lib.hid e2
  have HE9 := Lib.hid he
  have HS9 := Lib.hid hs
  clear heq hcE hcS hcL hcbe hN hL hLl h1L hL0 hL33 hLj hZ hZl hcb hcl hl he hs e2 hcells
  obtain ⟨W, hW⟩ : ∃ W, W = w.alloc (.cells L.toArray 50) := ⟨_, rfl⟩
  obtain ⟨xb, hxb⟩ : ∃ xb, xb = w.heap.size := ⟨_, rfl⟩
  have hR0 : Rows w [(xb, L)] W := by rw [hW, hxb]; exact (Rows.nil w).newL L _
  go_enter Try.func12, Try.ntmps12
  go_wp2_with fail
  rw [← hW]
  simp only [← hxb]
  clear hW hxb
  go_upto_region 6 with (first
    | (go_at_call 20; refine (node_speaks _).mono ?_; rintro e w1 ⟨rfl, hb1⟩; have hR1 := hR0.go hb1; have hA1 := hR1.get (b := xb) (L := L) (by simp))
    | (refine wpList_load_mid rfl 50 _ rfl xb 0 rfl L _ hA1.1 Try.underlying50 rfl HI.out ?_)
    | (refine wp_load_mid 50 _ rfl xb 0 rfl L _ hA1.1 Try.underlying50 rfl HI.out ?_)
    | (go_at_call 23; refine (HWc.out _).mono ?_; rintro e w2 ⟨v2, rfl, hf2, hb2⟩; have hR2 := hR1.go hb2))
  obtain ⟨A2, c2, rfl, hc21, hc22, _⟩ := hf2.1
  have hB2 := hf2.1
  clear hA1 hR1 hR0 hf2
  refine wp_region_front 17 [17, 18, 19, 20, 21, 22, 23, 24, 25, 26, 27, 28, 29, 30, 31, 32, 33] 0 #[true, true, true, true, true, true, true, true, true, true, true, true, true, true, true, true, true] (fun W => Rows w [(xb, L)] W ∧ Bs W (.slice A2 cb.length c2) cb) (cmF xb E S cb (numB 8 E) (numB 4 S) live) yesP (by kernel_rfl) (by kernel_rfl) (by kernel_rfl) (by kernel_rfl) (by kernel_rfl) (fun _ _ hb h => ⟨h.1.go hb, h.2.below hb⟩) cmF_below ⟨hR2.drew, hB2.below (Below.refl _ _).drew⟩ ?_ ?_
  · intro i hi s w3 hs hB hd
    have s2 : s 2 = .pointer (some ⟨xb, 0, none⟩) := hs 2 (by decide)
    have s5 : s 5 = .slice A2 cb.length c2 := hs 5 (by decide)
    have hA := hB.1.get (b := xb) (L := L) (by simp)
    have hc0 := hA.at_ 0 _ HL0.out
    have hc33 := hA.at_ 33 _ HL33.out
    obtain rfl | rfl | rfl | rfl | rfl | rfl | rfl | rfl | rfl | rfl | rfl | rfl | rfl | rfl | rfl | rfl | rfl : i = 0 ∨ i = 1 ∨ i = 2 ∨ i = 3 ∨ i = 4 ∨ i = 5 ∨ i = 6 ∨ i = 7 ∨ i = 8 ∨ i = 9 ∨ i = 10 ∨ i = 11 ∨ i = 12 ∨ i = 13 ∨ i = 14 ∨ i = 15 ∨ i = 16 := by omega
    all_goals refine stepG_plain (by rfl) ?_
    · exact stepS_move _ rfl ⟨Below.refl _ _, by show BsV cb (s 5) w3; rw [s5]; exact ⟨_, _, _, rfl, hB.2⟩, fun j _ _ u _ => ⟨trivial, trivial⟩⟩
    · obtain ⟨A3, n3, c3, h1, h2⟩ : BsV cb (s 17) w3 := hd 0 (by decide +kernel)
      refine stepS_run (v := .string (str cb)) ?_ ⟨Below.refl _ _, rfl, fun j _ _ u _ => ⟨trivial, trivial⟩⟩
      simp [execOp, evS, h1, run_str h2, Result.andThen]
    · refine stepS_run (v := .pointer (some ⟨xb, 0, none⟩)) ?_ ⟨Below.refl _ _, rfl, fun j _ _ u _ => ⟨trivial, trivial⟩⟩
      simp [execOp, evS, s2, go_sem]
    · have h2 : s 19 = .pointer (some ⟨xb, 0, none⟩) := hd 2 (by decide +kernel)
      refine stepS_run (v := .int .u64 (E : Int)) ?_ ⟨Below.refl _ _, rfl, fun j _ _ u _ => ⟨trivial, trivial⟩⟩
      simp [execOp, evS, h2, go_sem, hc0]
    · have h3 : s 20 = .int .u64 (E : Int) := hd 3 (by decide +kernel)
      refine stepS_call rfl Try.func33 (by kernel_rfl) (by kernel_rfl) #[.int .i64 8, .int .u64 (E : Int)] (by simp [evS, h3]) ((HNum.out w3 8 E HE9.out).mono ?_)
      rintro e w4 ⟨v, rfl, ho, hb4⟩
      exact ⟨_, rfl, hb4, bsV_own ho, fun j _ _ u _ => ⟨trivial, trivial⟩⟩
    · obtain ⟨A3, n3, c3, h1, h2⟩ : BsV (numB 8 E) (s 21) w3 := hd 4 (by decide +kernel)
      refine stepS_run (v := .string (str (numB 8 E))) ?_ ⟨Below.refl _ _, rfl, fun j _ _ u _ => ⟨trivial, trivial⟩⟩
      simp [execOp, evS, h1, run_str h2, Result.andThen]
    · refine stepS_run (v := .pointer (some ⟨xb, 33, none⟩)) ?_ ⟨Below.refl _ _, rfl, fun j _ _ u _ => ⟨trivial, trivial⟩⟩
      simp [execOp, evS, s2, go_sem]
    · have h2 : s 23 = .pointer (some ⟨xb, 33, none⟩) := hd 6 (by decide +kernel)
      refine stepS_run (v := .int .u32 (S : Int)) ?_ ⟨Below.refl _ _, rfl, fun j _ _ u _ => ⟨trivial, trivial⟩⟩
      simp [execOp, evS, h2, go_sem, hc33]
    · have h2 : s 24 = .int .u32 (S : Int) := hd 7 (by decide +kernel)
      refine stepS_run (v := .int .u64 (S : Int)) ?_ ⟨Below.refl _ _, rfl, fun j _ _ u _ => ⟨trivial, trivial⟩⟩
      simp [execOp, evS, h2, go_sem, E2.out]
    · have h3 : s 25 = .int .u64 (S : Int) := hd 8 (by decide +kernel)
      refine stepS_call rfl Try.func33 (by kernel_rfl) (by kernel_rfl) #[.int .i64 4, .int .u64 (S : Int)] (by simp [evS, h3]) ((HNum.out w3 4 S (by have := HS9.out; omega)).mono ?_)
      rintro e w4 ⟨v, rfl, ho, hb4⟩
      exact ⟨_, rfl, hb4, bsV_own ho, fun j _ _ u _ => ⟨trivial, trivial⟩⟩
    · obtain ⟨A3, n3, c3, h1, h2⟩ : BsV (numB 4 S) (s 26) w3 := hd 9 (by decide +kernel)
      refine stepS_run (v := .string (str (numB 4 S))) ?_ ⟨Below.refl _ _, rfl, fun j _ _ u _ => ⟨trivial, trivial⟩⟩
      simp [execOp, evS, h1, run_str h2, Result.andThen]
    · have h1 : s 22 = .string (str (numB 8 E)) := hd 5 (by decide +kernel)
      have h2 : s 27 = .string (str (numB 4 S)) := hd 10 (by decide +kernel)
      refine stepS_run (v := .string (str (numB 8 E ++ numB 4 S))) ?_ ⟨Below.refl _ _, rfl, fun j _ _ u _ => ⟨trivial, trivial⟩⟩
      have z1 : (str (numB 8 E)).size + (str (numB 4 S)).size ≤ 9223372036854775807 := by rw [str_size, str_size, numB_length, numB_length]; decide
      simp [execOp, evS, h1, h2, go_sem, str_append, z1]
    · refine stepS_run (v := .pointer (some ⟨xb, 1, none⟩)) ?_ ⟨Below.refl _ _, rfl, fun j _ _ u _ => ⟨trivial, trivial⟩⟩
      simp [execOp, evS, s2, go_sem]
    · have h1 : s 29 = .pointer (some ⟨xb, 1, none⟩) := hd 12 (by decide +kernel)
      refine stepS_run (v := .slice (some ⟨xb, 1, none⟩) 32 32) ?_ ⟨Below.refl _ _, rfl, fun j _ _ u _ => ⟨trivial, trivial⟩⟩
      simp [execOp, evS, h1, go_sem]
    · have h1 : s 30 = .slice (some ⟨xb, 1, none⟩) 32 32 := hd 13 (by decide +kernel)
      have h2 : Bs w3 (.slice (some ⟨xb, 1, none⟩) 32 32) live := by
        refine ⟨some ⟨xb, 1, none⟩, 32, by rw [HLV.out], by rw [HLV.out]; exact Nat.le_refl _, by rw [HLV.out]; decide, fun j u hu => ⟨_, rfl, ?_⟩⟩
        rw [Addr.add_mid]
        exact hA.at_ (1 + j) u (HLJ.out j u hu)
      refine stepS_run (v := .string (str live)) ?_ ⟨Below.refl _ _, rfl, fun j _ _ u _ => ⟨trivial, trivial⟩⟩
      simp [execOp, evS, h1, run_str h2, Result.andThen]
    · have h1 : s 28 = .string (str (numB 8 E ++ numB 4 S)) := hd 11 (by decide +kernel)
      have h2 : s 31 = .string (str live) := hd 14 (by decide +kernel)
      refine stepS_run (v := .string (str cb)) ?_ ⟨Below.refl _ _, rfl, fun j _ _ u _ => ⟨trivial, trivial⟩⟩
      have z1 : (str (numB 8 E ++ numB 4 S)).size + (str live).size ≤ 9223372036854775807 := by rw [str_size, str_size, List.length_append, numB_length, numB_length, HLV.out]; decide
      have z2 : str (numB 8 E ++ numB 4 S ++ live) = str cb := by rw [HCB.out, List.append_assoc]
      rw [← z2, ← str_append]
      simp [execOp, evS, h1, h2, go_sem, z1]
    · have h1 : s 18 = .string (str cb) := hd 1 (by decide +kernel)
      have h2 : s 32 = .string (str cb) := hd 15 (by decide +kernel)
      refine stepS_run (v := .bool false) ?_ ⟨Below.refl _ _, rfl, fun j _ _ u _ => ⟨trivial, trivial⟩⟩
      simp [execOp, evS, h1, h2, go_sem]
  · intro s w3 hB hF hP
    have h33 : s 33 = .bool false := hF 16 (by decide)
    obtain ⟨hR3, hB3⟩ := hB
    refine wpAny_end (by kernel_rfl) ?_
    simp only [setAll, List.foldl_cons, List.foldl_nil, List.setIfInBounds_toArray, List.set_cons_succ, List.set_cons_zero, h33]
    have HXX := Lib.hid hX
    clear hF hP h33 hR2 hB2 hX
    have HRc2 := Lib.hid (HRc.out A2 cb.length c2)
    by_cases h44 : n = 44
    · have HRr := Lib.hid (fun W h => rcommit_ok A n c raw W h h44)
      have hrl : raw.length = 44 := by rw [← HL.out]; exact h44
      have hback := rc_back raw hrl
      have hrt := rc_lt raw
      have hrd : (raw.drop 12).length = 32 := by rw [List.length_drop]; omega
      have HWr := Lib.hid (fun W => wcommit_any (rcE raw) (raw.drop 12) (rcS raw) W hrd hrt.1 hrt.2)
      rw [hback] at HWr
      have hcells : ∀ e l s, cmtC e l s = (cmtL e l s).toArray := fun e l s => (cmtL_arr e l s).symm
      rw [hcells] at HWr
      obtain ⟨M, hM⟩ : ∃ M, M = cmtL (rcE raw : Int) (raw.drop 12) (rcS raw : Int) := ⟨_, rfl⟩
      rw [← hM] at HRr HWr
      have hMl : M.length = 34 := by rw [hM]; exact cmtL_length _ _ _ hrd
      have h1M : ∀ v ∈ M, v.oneCell' = true := by rw [hM]; exact cmtL_one _ _ _
      have HIM := Lib.hid (show (Try.prog.info? 50).map (·.size) = some M.length by rw [hMl]; exact rc_info)
      have HIMA := Lib.hid (show (Try.prog.info? 50).map (·.size) = some M.toArray.size by rw [List.size_toArray, hMl]; exact rc_info)
      have H1M : Hid (M.toArray.all (·.oneCell') = true) := Lib.hid (all_oneCell_toArray h1M)
      have HZM : Hid (M.toArray.size = Z.toArray.toList.length) := Lib.hid (by simp [hMl, HZl.out])
      have H44 := Lib.hid h44
      have h44i : (n : Int) = 44 := by omega
      have HN44 := Lib.hid h44i
      have HRL := Lib.hid hrl
      clear hM hMl h1M hback hrt hrd hcells h44 hrl h44i
      have heq := HEQ.out
      have hgd : Try.prog.eqGuardType Try.prog.depth 50 = false := by kernel_rfl
      have tok : True := trivial
      have h44i := HN44.out
      go_upto_region 14 with (first
        | (go_at_call 34; have _t := tok; (with_reducible refine (HRc2.out _ hB3 HCL.out).mono ?_); rintro e w4 ⟨rfl, hb4⟩; have hR4 := hR3.go hb4; have hR5 := hR4.new Z.toArray 50; clear tok _t)
        | (go_at_call 34; (with_reducible refine (HRr.out _ (HXX.out.below hR6.below)).mono ?_); rintro e w7 ⟨rfl, hb7⟩; have hR7 := hR6.go hb7; have hR8 := hR7.new Z.toArray 50)
        | (refine wpList_store_mid rfl 50 _ _ rfl w4.heap.size 0 L.toArray rfl rfl ((hR5.get (b := w4.heap.size) (L := Z.toArray.toList) (by simp)).thereA HZL.out) HIA.out H1A.out ?_; obtain ⟨w6, hw6⟩ : ∃ w6, w6 = (w4.alloc (.cells Z.toArray 50)).setCells w4.heap.size 0 L.toArray.toList := ⟨_, rfl⟩; have hR6 := hR5.storeA HZL.out; rw [← hw6] at hR6; rw [← hw6]; clear hw6 hR5)
        | (refine wpList_store_mid rfl 50 _ _ rfl w7.heap.size 0 M.toArray rfl rfl ((hR8.get (b := w7.heap.size) (L := Z.toArray.toList) (by simp)).thereA HZM.out) HIMA.out H1M.out ?_; obtain ⟨w9, hw9⟩ : ∃ w9, w9 = (w7.alloc (.cells Z.toArray 50)).setCells w7.heap.size 0 M.toArray.toList := ⟨_, rfl⟩; have hR9 := hR8.storeA HZM.out; rw [← hw9] at hR9; rw [← hw9]; clear hw9 hR8; have hA9 := hR9.get (b := w7.heap.size) (L := M.toArray.toList) (by simp); have hB9 := hR9.get (b := w4.heap.size) (L := L.toArray.toList) (by simp); have hC9 := hR9.get (b := xb) (L := L) (by simp); rw [List.toList_toArray] at hA9 hB9)
        | (refine wpList_load_g rfl 50 _ rfl w4.heap.size 0 rfl L _ hB9.1 Try.underlying50 rfl HI.out ?_)
        | (refine wpList_load_g rfl 50 _ rfl xb 0 rfl L _ hC9.1 Try.underlying50 rfl HI.out ?_))
      have hX9 := HXX.out.below hR9.below
      clear heq h44i hR3 hR7 hA9 hB9 hC9
      refine wp_region_front 11 [61, 62, 63, 64, 65, 66, 67, 68, 69, 70, 4] 0 #[true, true, true, true, true, true, true, true, true, true, true] (fun W => Rows w [(w7.heap.size, M.toArray.toList), (w4.heap.size, L.toArray.toList), (xb, L)] W ∧ Bs W (.slice A n c) raw) (cmG M raw) yesP (by kernel_rfl) (by kernel_rfl) (by kernel_rfl) (by kernel_rfl) (by kernel_rfl) (fun _ _ hb h => ⟨h.1.go hb, h.2.below hb⟩) cmG_below ⟨hR9.drew, hX9.below (Below.refl _ _).drew⟩ ?_ ?_
      · intro i hi s w10 hs hB hd
        have s1 : s 1 = .slice A n c := hs 1 (by decide)
        have s8 : s 8 = .pointer (some ⟨w7.heap.size, 0, none⟩) := hs 8 (by decide)
        have s9 : s 9 = .int .i64 0 := hs 9 (by decide)
        have hA := hB.1.get (b := w7.heap.size) (L := M.toArray.toList) (by simp)
        rw [List.toList_toArray] at hA
        obtain rfl | rfl | rfl | rfl | rfl | rfl | rfl | rfl | rfl | rfl | rfl : i = 0 ∨ i = 1 ∨ i = 2 ∨ i = 3 ∨ i = 4 ∨ i = 5 ∨ i = 6 ∨ i = 7 ∨ i = 8 ∨ i = 9 ∨ i = 10 := by omega
        · exact stepG_plain (by rfl) (stepS_move _ rfl ⟨Below.refl _ _, s9, fun j _ _ u _ => ⟨trivial, trivial⟩⟩)
        · have h0 : s 61 = .int .i64 0 := hd 0 (by decide +kernel)
          refine stepG_plain (by rfl) (stepS_run (v := .bool true) ?_ ⟨Below.refl _ _, rfl, fun j _ _ u _ => ⟨trivial, trivial⟩⟩)
          simp [execOp, evS, h0, go_sem]
        · have h1 : s 62 = .bool true := hd 1 (by decide +kernel)
          exact stepG_plain (by rfl) (stepS_move _ rfl ⟨Below.refl _ _, h1, fun j _ _ u _ => ⟨trivial, trivial⟩⟩)
        · have h2 : s 63 = .bool true := hd 2 (by decide +kernel)
          exact stepG_struck (b := true) (g := 2) (by rfl) h2 (stepS_load rfl s8 hA Try.underlying50 rfl HIM.out ⟨Below.refl _ _, rfl, fun j _ _ u _ => ⟨trivial, trivial⟩⟩)
        · have h2 : s 63 = .bool true := hd 2 (by decide +kernel)
          have h3 : s 64 = .agg M.toArray := hd 3 (by decide +kernel)
          refine stepG_struck (b := true) (g := 2) (by rfl) h2 (stepS_call rfl Try.func23 (by kernel_rfl) (by kernel_rfl) #[.agg M.toArray] (by simp [evS, h3]) ((HWr.out w10).mono ?_))
          rintro e w11 ⟨v, rfl, hf, hb11⟩
          obtain ⟨A5, c5, e5, _⟩ := hf.1
          exact ⟨_, rfl, hb11, ⟨A5, _, c5, e5, e5 ▸ hf.1⟩, fun j _ _ u _ => ⟨trivial, trivial⟩⟩
        · have h2 : s 63 = .bool true := hd 2 (by decide +kernel)
          obtain ⟨A3, n3, c3, h3, h4⟩ : BsV raw (s 65) w10 := hd 4 (by decide +kernel)
          refine stepG_struck (b := true) (g := 2) (by rfl) h2 (stepS_run (v := .string (str raw)) ?_ ⟨Below.refl _ _, rfl, fun j _ _ u _ => ⟨trivial, trivial⟩⟩)
          simp [execOp, evS, h3, run_str h4, Result.andThen]
        · have h2 : s 63 = .bool true := hd 2 (by decide +kernel)
          exact stepG_struck (b := true) (g := 2) (by rfl) h2 (stepS_move _ rfl ⟨Below.refl _ _, by show BsV raw (s 1) w10; rw [s1]; exact ⟨_, _, _, rfl, hB.2⟩, fun j _ _ u _ => ⟨trivial, trivial⟩⟩)
        · have h2 : s 63 = .bool true := hd 2 (by decide +kernel)
          obtain ⟨A3, n3, c3, h3, h4⟩ : BsV raw (s 67) w10 := hd 6 (by decide +kernel)
          refine stepG_struck (b := true) (g := 2) (by rfl) h2 (stepS_run (v := .string (str raw)) ?_ ⟨Below.refl _ _, rfl, fun j _ _ u _ => ⟨trivial, trivial⟩⟩)
          simp [execOp, evS, h3, run_str h4, Result.andThen]
        · have h2 : s 63 = .bool true := hd 2 (by decide +kernel)
          have h5 : s 66 = .string (str raw) := hd 5 (by decide +kernel)
          have h7 : s 68 = .string (str raw) := hd 7 (by decide +kernel)
          refine stepG_struck (b := true) (g := 2) (by rfl) h2 (stepS_run (v := .bool true) ?_ ⟨Below.refl _ _, rfl, fun j _ _ u _ => ⟨trivial, trivial⟩⟩)
          simp [execOp, evS, h5, h7, go_sem]
        · have h2 : s 63 = .bool true := hd 2 (by decide +kernel)
          have h8 : s 69 = .bool true := hd 8 (by decide +kernel)
          refine stepG_plain (by rfl) (stepS_run (v := .bool true) ?_ ⟨Below.refl _ _, rfl, fun j _ _ u _ => ⟨trivial, trivial⟩⟩)
          simp [execOp, evS, h2, h8, go_sem]
        · have h9 : s 70 = .bool true := hd 9 (by decide +kernel)
          exact stepG_plain (by rfl) (stepS_assign _ rfl ⟨Below.refl _ _, h9, fun j _ _ u _ => ⟨trivial, trivial⟩⟩)
      · intro s w10 hB hF hP
        have h4 : s 4 = .bool true := hF 10 (by decide)
        refine wpAny_end (by kernel_rfl) ?_
        simp only [setAll, List.foldl_cons, List.foldl_nil, List.setIfInBounds_toArray, List.set_cons_succ, List.set_cons_zero, h4]
        clear hF hP h4
        go_wp2_with fail
        go_ret
        exact ⟨rfl, hB.1.below⟩
    · have HRb := Lib.hid (fun W => rcommit_bad A n c W h44)
      rw [← HZE.out] at HRb
      have hcells : ∀ e l s, cmtC e l s = (cmtL e l s).toArray := fun e l s => (cmtL_arr e l s).symm
      have heq0 := fun w => commit_eql 0 (List.replicate 32 0) 0 0 (List.replicate 32 0) 0 (by decide) (by decide) (by omega) (by omega) (by omega) (by omega) w
      rw [hcells, show cmtL 0 (List.replicate 32 0) 0 = Z from HZE.out.symm] at heq0
      simp only [and_self, decide_true] at heq0
      have HIZ := Lib.hid (show (Try.prog.info? 50).map (·.size) = some Z.length by rw [HZl.out]; exact rc_info)
      have HIMA := Lib.hid (show (Try.prog.info? 50).map (·.size) = some Z.toArray.size by rw [List.size_toArray, HZl.out]; exact rc_info)
      have H1M : Hid (Z.toArray.all (·.oneCell') = true) := Lib.hid (all_oneCell_toArray (by rw [HZE.out]; exact cmtL_one _ _ _))
      have HZM : Hid (Z.toArray.size = Z.toArray.toList.length) := Lib.hid (by simp)
      have hn44 : ¬ (n : Int) = 44 := by omega
      clear h44 hcells
      have heq := HEQ.out
      have hgd : Try.prog.eqGuardType Try.prog.depth 50 = false := by kernel_rfl
      have tok : True := trivial
      go_wp2_with (first
        | (go_at_call 34; have _t := tok; (with_reducible refine (HRc2.out _ hB3 HCL.out).mono ?_); rintro e w4 ⟨rfl, hb4⟩; have hR4 := hR3.go hb4; have hR5 := hR4.new Z.toArray 50; clear tok _t)
        | (go_at_call 34; (with_reducible refine (HRb.out _).mono ?_); rintro e w7 ⟨rfl, hb7⟩; have hR7 := hR6.go hb7; have hR8 := hR7.new Z.toArray 50)
        | (refine wpList_store_mid rfl 50 _ _ rfl w4.heap.size 0 L.toArray rfl rfl ((hR5.get (b := w4.heap.size) (L := Z.toArray.toList) (by simp)).thereA HZL.out) HIA.out H1A.out ?_; obtain ⟨w6, hw6⟩ : ∃ w6, w6 = (w4.alloc (.cells Z.toArray 50)).setCells w4.heap.size 0 L.toArray.toList := ⟨_, rfl⟩; have hR6 := hR5.storeA HZL.out; rw [← hw6] at hR6; rw [← hw6]; clear hw6 hR5)
        | (refine wpList_store_mid rfl 50 _ _ rfl w7.heap.size 0 Z.toArray rfl rfl ((hR8.get (b := w7.heap.size) (L := Z.toArray.toList) (by simp)).thereA HZM.out) HIMA.out H1M.out ?_; obtain ⟨w9, hw9⟩ : ∃ w9, w9 = (w7.alloc (.cells Z.toArray 50)).setCells w7.heap.size 0 Z.toArray.toList := ⟨_, rfl⟩; have hR9 := hR8.storeA HZM.out; rw [← hw9] at hR9; rw [← hw9]; clear hw9 hR8; have hA9 := hR9.get (b := w7.heap.size) (L := Z.toArray.toList) (by simp); have hB9 := hR9.get (b := w4.heap.size) (L := L.toArray.toList) (by simp); have hC9 := hR9.get (b := xb) (L := L) (by simp); rw [List.toList_toArray] at hA9 hB9)
        | (refine wpList_load_g rfl 50 _ rfl w4.heap.size 0 rfl L _ hB9.1 Try.underlying50 rfl HI.out ?_)
        | (refine wpList_load_g rfl 50 _ rfl xb 0 rfl L _ hC9.1 Try.underlying50 rfl HI.out ?_)
        | (refine wpList_load_g rfl 50 _ rfl w7.heap.size 0 rfl Z _ hA9.1 Try.underlying50 rfl HIZ.out ?_))
      go_ret
      exact ⟨rfl, hR9.below⟩
theorem nodeCommits_int (ep : Int) (live : List UInt8) (sum : Int) (A : Option Addr) (n c : Nat) (raw : List UInt8) (w : World) (hl : live.length = 32) (h0 : 0 ≤ ep) (he : ep < 18446744073709551616) (h1 : 0 ≤ sum) (hs : sum < 4294967296) (hX : Bs w (.slice A n c) raw) :
    Calls Try.prog 12 #[.agg (cmtC ep live sum), .slice A n c] w fun e w' => e = .returned (.bool true) ∧ Below w.heap.size w w' := by
  obtain ⟨E, rfl⟩ := Int.eq_ofNat_of_zero_le h0
  obtain ⟨S, rfl⟩ := Int.eq_ofNat_of_zero_le h1
  rw [← cmtL_arr]
  exact nodeCommits_walk E live S A n c raw w hl (by omega) (by omega) hX
end Go.Proofs.YtljdfhckllncoaaK

import Derived.Test.YtljdfhckllncoaaKCmtW
import Derived.Test.YtljdfhckllncoaaKCopy
import Derived.Test.YtljdfhckllncoaaKPackRd
import Derived.Test.YtljdfhckllncoaaKNodeD
import Derived.Test.YtljdfhckllncoaaKInvA
import Derived.Deep.DeepCutAuto
namespace Go.Proofs.YtljdfhckllncoaaK
open Go.RowKit
set_option linter.unusedSimpArgs false
set_option linter.unusedVariables false
/-- A commit's cells, as a list. -/
def cmtL (e : Int) (live : List UInt8) (s : Int) : List Value := [Value.int .u64 e] ++ (live.map encB ++ [Value.int .u32 s])
def cmt0L : List Value := cmtL 0 (List.replicate 32 0) 0
theorem cmtL_length (e : Int) (live : List UInt8) (s : Int) (hl : live.length = 32) : (cmtL e live s).length = 34 := by unfold cmtL; simp [hl]
theorem cmtL_one (e : Int) (live : List UInt8) (s : Int) : ∀ v ∈ cmtL e live s, v.oneCell' = true := by
  intro v hv
  unfold cmtL at hv
  simp only [List.mem_append, List.mem_cons, List.not_mem_nil, or_false] at hv
  rcases hv with rfl | hv | rfl
  · rfl
  · exact encB_all _ v hv
  · rfl
theorem cmtL_arr (e : Int) (live : List UInt8) (s : Int) : (cmtL e live s).toArray = cmtC e live s := by
  apply Array.toList_inj.1
  rw [cmtC_list]
  rfl
theorem cmtL_set0 (e e2 : Int) (live : List UInt8) (s : Int) : (cmtL e live s).set 0 (.int .u64 e2) = cmtL e2 live s := rfl
theorem cmtL_set33 (e : Int) (live : List UInt8) (s s2 : Int) (hl : live.length = 32) : (cmtL e live s).set 33 (.int .u32 s2) = cmtL e live s2 := by
  unfold cmtL
  show Value.int .u64 e :: (live.map encB ++ [Value.int .u32 s]).set 32 _ = _
  rw [List.set_append_right _ _ (by simp [hl])]
  simp [hl]
theorem cmtL_spl (e : Int) (live l2 : List UInt8) (s : Int) (hl : live.length = 32) (h2 : l2.length = 32) : spl (cmtL e live s) 1 (l2.map encB) = cmtL e l2 s := by
  unfold spl cmtL
  show Value.int .u64 e :: _ = _
  simp [h2, hl]
def rcE (bs : List UInt8) : Nat := numV (bs.take 8)
def rcS (bs : List UInt8) : Nat := numV ((bs.drop 8).take 4)
theorem rc_zero (w : World) : (zeroValue 50).run Try.prog w = .ok (.agg cmt0L.toArray) w := by
  have h := (zero_of_info (P := Try.prog) (t := 50) (v := .agg cmt0L.toArray) (n := 34) (by kernel_rfl)).1
  exact h w
theorem rc_info : (Try.prog.info? 50).map (·.size) = some 34 := by kernel_rfl
set_option maxRecDepth 100000 in
set_option maxHeartbeats 4000000 in
theorem rcommit_bad (A : Option Addr) (n c : Nat) (w : World) (h : n ≠ 44) :
    Calls Try.prog 34 #[.slice A n c] w fun e w' => e = .returned (.tuple #[.agg cmt0L.toArray, .int .i64 11]) ∧ Below w.heap.size w w' := by
  have hz := rc_zero
  obtain ⟨Z, hZ⟩ : ∃ Z, Z = cmt0L := ⟨_, rfl⟩
  have hZl : Z.length = 34 := by rw [hZ]; exact cmtL_length _ _ _ (by decide)
  have h1Z : ∀ v ∈ Z, v.oneCell' = true := by rw [hZ]; exact cmtL_one _ _ _
  rw [← hZ] at hz ⊢
  have HI := Lib.hid (show (Try.prog.info? 50).map (·.size) = some Z.length by rw [hZl]; exact rc_info)
  have HIA := Lib.hid (show (Try.prog.info? 50).map (·.size) = some Z.toArray.size by rw [List.size_toArray, hZl]; exact rc_info)
  have H1A : Hid (Z.toArray.all (·.oneCell') = true) := Lib.hid (all_oneCell_toArray h1Z)
  have HZZ : Hid (Z.toArray.size = Z.length) := Lib.hid (by simp)
  clear hZ hZl h1Z
  have hn : ¬ (n : Int) = 44 := by omega
  clear h
  have hA0 : Arr (w.alloc (.cells Z.toArray 50)) w.heap.size Z := arr_newL w Z _
  have hB0 : Below w.heap.size w (w.alloc (.cells Z.toArray 50)) := (Below.refl _ _).alloc (Nat.le_refl _) _
  go_enter Try.func34, Try.ntmps34
  go_upto_region 1 with fail
  obtain ⟨W, hW⟩ : ∃ W, W = w.alloc (.cells Z.toArray 50) := ⟨_, rfl⟩
  obtain ⟨xb, hxb⟩ : ∃ xb, xb = w.heap.size := ⟨_, rfl⟩
  have hge : w.heap.size ≤ xb := by omega
  rw [← hW] at hA0 hB0
  rw [← hxb] at hA0
  rw [← hW]
  simp only [← hxb]
  clear hW hxb
  go_wp2_with (first
    | (refine wpList_load_mid rfl 50 _ rfl xb 0 rfl Z _ hA0.1 Try.underlying50 rfl HI.out ?_)
    | (refine wp_load_mid 50 _ rfl xb 0 rfl Z _ hA0.1 Try.underlying50 rfl HI.out ?_)
    | (refine wpList_store_mid rfl 50 _ _ rfl xb 0 Z.toArray rfl rfl (hA0.thereA HZZ.out) HIA.out H1A.out ?_))
  exact bodyPost_row2 rfl rfl rfl rfl (hA0.setA_same HZZ.out) Try.underlying50 rfl HIA.out ⟨by simp, below_setCells hge _ _ hB0⟩
set_option maxRecDepth 100000 in
set_option maxHeartbeats 8000000 in
theorem rcommit_ok (A : Option Addr) (n c : Nat) (bs : List UInt8) (w : World) (hX : Bs w (.slice A n c) bs) (h44 : n = 44) :
    Calls Try.prog 34 #[.slice A n c] w fun e w' => e = .returned (.tuple #[.agg (cmtL (rcE bs : Int) (bs.drop 12) (rcS bs : Int)).toArray, .int .i64 0]) ∧ Below w.heap.size w w' := by
  have hl := hX.len
  have hz := rc_zero
  have HN := Lib.hid (fun W h => new_any A n c bs W h (by omega))
  have H8 := Lib.hid (fun b D W h => rnum_in b D bs false 8 8 W rfl (by omega) h (by omega))
  have H4 := Lib.hid (fun b D W h => rnum_in b D (bs.drop 8) false 4 4 W rfl (by rw [List.length_drop]; omega) h (by rw [List.length_drop]; omega))
  rw [List.drop_drop] at H4
  obtain ⟨Y, hY⟩ : ∃ Y, Y = bs.drop 12 := ⟨_, rfl⟩
  have hYl : Y.length = 32 := by rw [hY, List.length_drop]; omega
  rw [show 8 + 4 = 12 from rfl, ← hY] at H4
  rw [← hY]
  have HLf := Lib.hid (fun b D W h => left_any b D Y false W h)
  have HB := Lib.hid (fun b D W h => rbytes_all b D Y false W h (by omega))
  rw [hYl] at HLf HB
  have hE := numV_lt (bs.take 8)
  have hS := numV_lt ((bs.drop 8).take 4)
  have hE9 : rcE bs < 18446744073709551616 := by
    have h1 : (bs.take 8).length ≤ 8 := by rw [List.length_take]; omega
    exact Nat.lt_of_lt_of_le hE (by have := Nat.pow_le_pow_right (n := 256) (by decide) h1; simpa using this)
  have hS9 : rcS bs < 4294967296 := by
    have h1 : ((bs.drop 8).take 4).length ≤ 4 := by rw [List.length_take]; omega
    exact Nat.lt_of_lt_of_le hS (by have := Nat.pow_le_pow_right (n := 256) (by decide) h1; simpa using this)
  have e1 : IntKind.u32.wrap ((rcS bs : Nat) : Int) = rcS bs := by rw [IntKind.wrap_u32]; omega
  rw [show numV (bs.take 8) = rcE bs from rfl] at H8
  rw [show numV ((bs.drop 8).take 4) = rcS bs from rfl] at H4
  obtain ⟨E, hEe⟩ : ∃ K, K = rcE bs := ⟨_, rfl⟩
  obtain ⟨S, hSe⟩ : ∃ K, K = rcS bs := ⟨_, rfl⟩
  rw [← hEe] at H8
  rw [← hSe] at H4 e1
  rw [← hEe, ← hSe]
  have s0 : cmt0L.set 0 (.int .u64 (E : Int)) = cmtL E (List.replicate 32 0) 0 := rfl
  have s1 : (cmtL (E : Int) (List.replicate 32 0) 0).set 33 (.int .u32 (S : Int)) = cmtL E (List.replicate 32 0) S := cmtL_set33 _ _ _ _ (by decide)
  have s2 : spl (cmtL (E : Int) (List.replicate 32 0) (S : Int)) 1 (Y.map encB) = cmtL E Y S := cmtL_spl _ _ _ _ (by decide) hYl
  obtain ⟨Z, hZ⟩ : ∃ Z, Z = cmt0L := ⟨_, rfl⟩
  obtain ⟨Z1, hZ1⟩ : ∃ Z, Z = cmtL (E : Int) (List.replicate 32 0) 0 := ⟨_, rfl⟩
  obtain ⟨Z2, hZ2⟩ : ∃ Z, Z = cmtL (E : Int) (List.replicate 32 0) (S : Int) := ⟨_, rfl⟩
  obtain ⟨Z3, hZ3⟩ : ∃ Z, Z = cmtL (E : Int) Y (S : Int) := ⟨_, rfl⟩
  rw [← hZ, ← hZ1] at s0
  rw [← hZ1, ← hZ2] at s1
  rw [← hZ2, ← hZ3] at s2
  rw [← hZ] at hz
  rw [← hZ3]
  have hZl : Z.length = 34 := by rw [hZ]; exact cmtL_length _ _ _ (by decide)
  have hZ1l : Z1.length = 34 := by rw [hZ1]; exact cmtL_length _ _ _ (by decide)
  have hZ2l : Z2.length = 34 := by rw [hZ2]; exact cmtL_length _ _ _ (by decide)
  have hZ3l : Z3.length = 34 := by rw [hZ3]; exact cmtL_length _ _ _ hYl
  have h1Z : ∀ v ∈ Z3, v.oneCell' = true := by rw [hZ3]; exact cmtL_one _ _ _
  have HI := Lib.hid (show (Try.prog.info? 50).map (·.size) = some Z3.length by rw [hZ3l]; exact rc_info)
  have HIA := Lib.hid (show (Try.prog.info? 50).map (·.size) = some Z3.toArray.size by rw [List.size_toArray, hZ3l]; exact rc_info)
  have H1A : Hid (Z3.toArray.all (·.oneCell') = true) := Lib.hid (all_oneCell_toArray h1Z)
  have HZZ : Hid (Z3.toArray.size = Z3.length) := Lib.hid (by simp)
  have hz0 : Z[0]? = some (.int .u64 0) := by rw [hZ]; rfl
  have hz33 : Z1[33]? = some (.int .u32 0) := by
    rw [hZ1]; unfold cmtL
    rw [List.getElem?_append_right (by simp), List.getElem?_append_right (by simp)]
    simp
  have HZ0 := Lib.hid hz0
  have HZ33 := Lib.hid hz33
  have S0 := Lib.hid s0
  have S1 := Lib.hid s1
  have S2 := Lib.hid s2
  have HZL := Lib.hid hZl
  have HZ1L := Lib.hid hZ1l
  have HZ2L := Lib.hid hZ2l
  have HYL := Lib.hid hYl
  have hA0 : Arr (w.alloc (.cells Z.toArray 50)) w.heap.size Z := arr_newL w Z _
  have hB0 : Below w.heap.size w (w.alloc (.cells Z.toArray 50)) := (Below.refl _ _).alloc (Nat.le_refl _) _
  have hE0 : (0 : Int) ≤ E := by omega
  have hS0 : (0 : Int) ≤ S := by omega
  have hS8 : (S : Int) < 4294967296 := by omega
  clear hz0 hz33 hEe hSe hE hS hE9 hS9 s0 s1 s2 hZ hZ1 hZ2 hZ3 hZl hZ1l hZ2l hZ3l h1Z hl hY hYl
  have hn : (n : Int) = 44 := by omega
  have H44 := Lib.hid h44
  subst h44
  clear hn
  go_enter Try.func34, Try.ntmps34
  go_upto_region 1 with fail
  obtain ⟨W, hW⟩ : ∃ W, W = w.alloc (.cells Z.toArray 50) := ⟨_, rfl⟩
  obtain ⟨xb, hxb⟩ : ∃ xb, xb = w.heap.size := ⟨_, rfl⟩
  have hge : w.heap.size ≤ xb := by omega
  rw [← hW] at hA0 hB0
  rw [← hxb] at hA0
  have HX := Lib.hid (hX.below hB0)
  rw [← hW]
  simp only [← hxb]
  have hlx := hA0.2.2
  clear hW hxb hX
  have HNE1 := Lib.hid (show ∀ rb, W.heap.size ≤ rb → xb ≠ rb from fun rb h => by omega)
  go_upto_region 4 with (go_at_call 41; refine (HN.out _ HX.out).mono ?_; rintro e w1 ⟨rb, D, rfl, hrb, hD1, hD2, hr1, hb1⟩)
  have hA1 := hA0.below hb1
  have hq1 := hB0.trans (hb1.mono hB0.size)
  have HR := Lib.hid (HNE1.out rb hrb)
  have HD := Lib.hid (HNE1.out D hD1)
  have hrw : w.heap.size ≤ rb := Nat.le_trans hB0.size hrb
  clear H44
  go_upto_region 5 with (go_at_call 42; refine (H8.out _ _ _ (by exact hr1)).mono ?_; rintro e w2 ⟨rfl, hr2, hg2⟩; have hA2 := hA1.grown hg2 (by intro h; injection h with h; exact HR.out h); have hq2 := below_row hq1 hg2 hq1.size hrw; have hc2 := hA2.at_ 0 _ HZ0.out; have hf2 := (hA2.2.1 0 (by rw [HZL.out]; decide)).2; rw [Nat.zero_add] at hf2)
  have hA3 := hA2.set_cell 0 (.int .u64 (E : Int))
  rw [S0.out] at hA3
  have hr3 := hr2.set (p := ⟨xb, 0, none⟩) HR.out HD.out (.int .u64 (E : Int))
  have hq3 := hq2.setCell (p := ⟨xb, 0, none⟩) hge (.int .u64 (E : Int))
  obtain ⟨W3, hW3⟩ : ∃ W3, W3 = w2.setCell ⟨xb, 0, none⟩ (.int .u64 (E : Int)) := ⟨_, rfl⟩
  rw [← hW3] at hA3 hr3 hq3 ⊢
  clear hW3 hc2 hf2 hA2 hr2 hq2 hg2 hA1 hr1 hq1
  go_upto_region 6 with (go_at_call 42; refine (H4.out _ _ _ (by exact hr3)).mono ?_; rintro e w4 ⟨rfl, hr4, hg4⟩; have hA4 := hA3.grown hg4 (by intro h; injection h with h; exact HR.out h); have hq4 := below_row hq3 hg4 hq3.size hrw; have hc4 := hA4.at_ 33 _ HZ33.out; have hf4 := (hA4.2.1 33 (by rw [HZ1L.out]; decide)).2; rw [Nat.zero_add] at hf4)
  have hA5 := hA4.set_cell 33 (.int .u32 (S : Int))
  rw [S1.out] at hA5
  have hr5 := hr4.set (p := ⟨xb, 33, none⟩) HR.out HD.out (.int .u32 (S : Int))
  have hq5 := hq4.setCell (p := ⟨xb, 33, none⟩) hge (.int .u32 (S : Int))
  obtain ⟨W5, hW5⟩ : ∃ W5, W5 = w4.setCell ⟨xb, 33, none⟩ (.int .u32 (S : Int)) := ⟨_, rfl⟩
  rw [← hW5] at hA5 hr5 hq5 ⊢
  clear hW5 hc4 hf4 hA4 hr4 hq4 hg4 hA3 hr3 hq3
  refine wp_region_any (by kernel_rfl) ?_
  rw [show ({ W5 with drawn := W5.drawn + 1 } : World) = W5.drew from rfl]
  refine wpAny_take (i := 0) (oi := _) (v := .pointer (some ⟨xb, 1, none⟩)) rfl (by kernel_rfl) (by kernel_rfl) (by kernel_rfl) (fun _ _ _ h => h) (Or.inl ⟨by rfl, fun w => by go_simp⟩) ?_
  simp only [List.getElem_toArray, List.getElem_cons_succ, List.getElem_cons_zero, Act.put, List.setIfInBounds_toArray, List.set_cons_zero, List.set_cons_succ]
  refine wpAny_take (i := 1) (oi := _) (v := .slice (some ⟨xb, 1, none⟩) 32 32) rfl (by kernel_rfl) (by kernel_rfl) (by kernel_rfl) (fun _ _ _ h => h) (Or.inl ⟨by rfl, fun w => by go_simp⟩) ?_
  simp only [List.getElem_toArray, List.getElem_cons_succ, List.getElem_cons_zero, Act.put, List.setIfInBounds_toArray, List.set_cons_zero, List.set_cons_succ]
  refine wpAny_take (i := 2) (oi := _) (v := .pointer (some ⟨rb, 0, none⟩)) rfl (by kernel_rfl) (by kernel_rfl) (by kernel_rfl) (fun _ _ _ h => h) (Or.inl ⟨by rfl, fun w => by go_simp⟩) ?_
  simp only [List.getElem_toArray, List.getElem_cons_succ, List.getElem_cons_zero, Act.put, List.setIfInBounds_toArray, List.set_cons_zero, List.set_cons_succ]
  refine wpAny_take (i := 3) (oi := _) (v := .pointer (some ⟨rb, 0, none⟩)) rfl (by kernel_rfl) (by kernel_rfl) (by kernel_rfl) (fun _ _ _ h => h) (Or.inl ⟨by rfl, fun w => by go_simp⟩) ?_
  simp only [List.getElem_toArray, List.getElem_cons_succ, List.getElem_cons_zero, Act.put, List.setIfInBounds_toArray, List.set_cons_zero, List.set_cons_succ]
  refine wpAny_one 4 _ (by kernel_rfl) (by simp only [List.getElem?_toArray, List.getElem?_cons_succ, List.getElem?_cons_zero]; rfl) (by rfl) ?_
  refine StepS.wp (K := fun v w' => v = .int .i64 32 ∧ w' = W5.drew) ?_ ?_
  · refine stepS_call rfl Try.func51 (by kernel_rfl) (by kernel_rfl) #[.pointer (some ⟨rb, 0, none⟩)] ?_ ?_
    · simp [evS]
    · refine (HLf.out rb D W5.drew (hr5.below (Below.refl _ _).drew)).mono ?_
      rintro e w6 ⟨rfl, rfl⟩
      exact ⟨_, rfl, rfl, rfl⟩
  rintro v6 w6 ⟨rfl, rfl⟩
  simp only [List.getElem_toArray, List.getElem_cons_succ, List.getElem_cons_zero, Act.put, List.setIfInBounds_toArray, List.set_cons_zero, List.set_cons_succ]
  refine wpAny_one 5 _ (by kernel_rfl) (by simp only [List.getElem?_toArray, List.getElem?_cons_succ, List.getElem?_cons_zero]; rfl) (by rfl) ?_
  refine StepS.wp (K := fun v w' => ∃ m, w'.ownsRow W5.heap.size 5 1 v m (Y.map encB) ∧ W5.drew.grownBy w' (some rb)) ?_ ?_
  · refine stepS_call rfl Try.func50 (by kernel_rfl) (by kernel_rfl) #[.pointer (some ⟨rb, 0, none⟩), .int .i64 32] ?_ ?_
    · simp [evS]
    · refine (HB.out rb D W5.drew (hr5.below (Below.refl _ _).drew)).mono ?_
      rintro e w6 ⟨v, m, rfl, h1, h2⟩
      exact ⟨_, rfl, m, h1, h2⟩
  rintro v7 w7 ⟨m, ho7, hg7⟩
  obtain ⟨hm7, hbs7⟩ := own_bs ho7
  obtain ⟨A7, c7, rfl, _, _⟩ := own_form ho7
  rw [HYL.out] at hm7
  subst hm7
  have hA7 := (hA5.drew).grown hg7 (by intro h; injection h with h; exact HR.out h)
  have hq7 := below_row hq5.drew hg7 hq5.size hrw
  have hA8 := hA7.splice (vs := (Y.map encB).take (Nat.min 32 32)) 1 (by rw [HZ2L.out]; simp [HYL.out])
  have hq8 := below_setCells hge ((Y.map encB).take (Nat.min 32 32)) 1 hq7
  rw [show (Y.map encB).take (Nat.min 32 32) = Y.map encB from List.take_of_length_le (by simp [HYL.out])] at hA8 hq8
  rw [S2.out] at hA8
  simp only [List.getElem_toArray, List.getElem_cons_succ, List.getElem_cons_zero, Act.put, List.setIfInBounds_toArray, List.set_cons_zero, List.set_cons_succ]
  refine wpAny_one 6 _ (by kernel_rfl) (by simp only [List.getElem?_toArray, List.getElem?_cons_succ, List.getElem?_cons_zero]; rfl) (by rfl) ?_
  refine wp_copy (ops := #[]) (Operand.tmp 19) (Operand.tmp 23) 22 22 ?_ 5 Try.underlying22 (by kernel_rfl) xb 1 32 32 A7 32 c7 (Y.map encB) ?_ ?_ (by simp [HYL.out]) hbs7.at hA7 ?_ (encB_all _) ?_
  · rfl
  · simp [Act.eval]
  · simp [Act.eval]
  · rw [HZ2L.out]; decide
  rw [show (Y.map encB).take (Nat.min 32 32) = Y.map encB from List.take_of_length_le (by simp [HYL.out])]
  simp only [List.getElem_toArray, List.getElem_cons_succ, List.getElem_cons_zero, Act.put, List.setIfInBounds_toArray, List.set_cons_zero, List.set_cons_succ]
  rw [show Nat.min 32 32 = 32 from rfl, show goInt ((32 : Nat) : Int) = .int .i64 32 from rfl]
  clear e1
  refine wpAny_end (by kernel_rfl) ?_
  obtain ⟨W8, hW8⟩ : ∃ W8, W8 = w7.setCells xb 1 (Y.map encB) := ⟨_, rfl⟩
  rw [← hW8] at hA8 hq8 ⊢
  clear hW8 hA7 hq7 hg7 hbs7 ho7 hA5 hr5 hq5
  go_wp2_with (first
    | (refine wpList_load_mid rfl 50 _ rfl xb 0 rfl Z3 _ hA8.1 Try.underlying50 rfl HI.out ?_)
    | (refine wp_load_mid 50 _ rfl xb 0 rfl Z3 _ hA8.1 Try.underlying50 rfl HI.out ?_)
    | (refine wpList_store_mid rfl 50 _ _ rfl xb 0 Z3.toArray rfl rfl (hA8.thereA HZZ.out) HIA.out H1A.out ?_))
  exact bodyPost_row2 rfl rfl rfl rfl (hA8.setA_same HZZ.out) Try.underlying50 rfl HIA.out ⟨by simp, below_setCells hge _ _ hq8⟩
end Go.Proofs.YtljdfhckllncoaaK

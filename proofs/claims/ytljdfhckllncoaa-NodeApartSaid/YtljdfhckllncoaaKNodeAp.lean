import Derived.Test.YtljdfhckllncoaaKCmtW
import Derived.Test.YtljdfhckllncoaaKNodeW
namespace Go.Proofs.YtljdfhckllncoaaK
open Go.RowKit
set_option linter.unusedSimpArgs false
set_option linter.unusedVariables false
theorem nodeB_inj (k1 e1 : Nat) (b1 : List UInt8) (k2 e2 : Nat) (b2 : List UInt8) (h1 : k1 < 256) (h2 : e1 < 18446744073709551616) (h3 : k2 < 256) (h4 : e2 < 18446744073709551616) : nodeB k1 e1 b1 = nodeB k2 e2 b2 ↔ (k1 = k2 ∧ e1 = e2 ∧ b1 = b2) := by
  constructor
  · intro h
    have a := nodeK_B k1 e1 b1 h1
    have b := nodeE_B k1 e1 b1 h2
    have c := nodeD_B k1 e1 b1
    rw [h] at a b c
    rw [nodeK_B _ _ _ h3] at a
    rw [nodeE_B _ _ _ h4] at b
    rw [nodeD_B] at c
    exact ⟨a.symm, b.symm, c.symm⟩
  · rintro ⟨rfl, rfl, rfl⟩; rfl
theorem range_below {w w1 : World} {b o : Nat} {cs : List Value} (h : w.rangeAt b o cs) (hb : Below w.heap.size w w1) : w1.rangeAt b o cs := fun j v hv => cell_later hb (h j v hv)
theorem range_row {w : World} {b : Nat} {cs : List Value} {T : TypeId} {fz : Nat × Nat} (h : w.heap[b]? = some (.cells cs.toArray T fz)) : w.rangeAt b 0 cs := fun j v hv => by
  rw [Nat.zero_add, cell_of_row _ _ j _ _ _ h]; simpa using hv
theorem eql_exec {P : Program} (e : Operand → Value) (o : Oper) (t rt : TypeId) (x y : Operand) (xs ys : Array Value) {w : World} {r : Bool} (ho : o.op = .binOp .eql t x y rt) (hxy : e x = .agg xs ∧ e y = .agg ys) (hm : P.eqGuardType P.depth t = false) (h : (binOp .eql t (.agg xs) (.agg ys)).run P w = .ok (.bool r) w) :
    (execOp e o).run P w = .ok (.value (.bool r)) w := by
  unfold execOp
  simp [ho, hxy.1, hxy.2, h, run_eqGuard_agg, hm, Result.andThen]
theorem four_alloc (w : World) (o0 o1 o2 o3 : Obj) :
    let W := (((w.alloc o0).alloc o1).alloc o2).alloc o3
    W.heap[w.heap.size]? = some o0 ∧ W.heap[w.heap.size + 1]? = some o1 ∧ W.heap[w.heap.size + 2]? = some o2 ∧ W.heap[w.heap.size + 3]? = some o3 := by
  have s1 : (w.alloc o0).heap.size = w.heap.size + 1 := by simp
  have s2 : ((w.alloc o0).alloc o1).heap.size = w.heap.size + 2 := by simp
  have s3 : (((w.alloc o0).alloc o1).alloc o2).heap.size = w.heap.size + 3 := by simp
  have up : ∀ (v : World) (o : Obj), Below v.heap.size v (v.alloc o) := fun v o => (Below.refl _ _).alloc (Nat.le_refl _) o
  have a0 := heap_alloc_new w o0
  have a1 := heap_alloc_new (w.alloc o0) o1
  have a2 := heap_alloc_new ((w.alloc o0).alloc o1) o2
  have a3 := heap_alloc_new (((w.alloc o0).alloc o1).alloc o2) o3
  rw [s1] at a1
  rw [s2] at a2
  rw [s3] at a3
  exact ⟨box_below (box_below (box_below a0 (up _ o1)) (up _ o2)) (up _ o3), box_below (box_below a1 (up _ o2)) (up _ o3), box_below a2 (up _ o3), a3⟩
set_option maxRecDepth 10000 in
set_option maxHeartbeats 4000000 in
theorem nodeApart_walk (k1 p1 : Int) (A1 : Option Addr) (n1 c1 : Nat) (b1 : List UInt8) (k2 p2 : Int) (A2 : Option Addr) (n2 c2 : Nat) (b2 : List UInt8) (E1 : Int) (l1 : List UInt8) (s1 : Int) (E2 : Int) (l2 : List UInt8) (s2 : Int) (w : World)
    (hX1 : Bs w (.slice A1 n1 c1) b1) (hX2 : Bs w (.slice A2 n2 c2) b2) (hp1 : 0 ≤ p1 ∧ p1 < 18446744073709551616) (hp2 : 0 ≤ p2 ∧ p2 < 18446744073709551616) (hl1 : l1.length = 32) (hl2 : l2.length = 32)
    (he1 : 0 ≤ E1 ∧ E1 < 18446744073709551616) (hs1 : 0 ≤ s1 ∧ s1 < 4294967296) (he2 : 0 ≤ E2 ∧ E2 < 18446744073709551616) (hs2 : 0 ≤ s2 ∧ s2 < 4294967296) :
    Calls Try.prog 8 #[.agg #[.int .i64 k1, .int .u64 p1, .slice A1 n1 c1], .agg #[.int .i64 k2, .int .u64 p2, .slice A2 n2 c2], .agg (cmtC E1 l1 s1), .agg (cmtC E2 l2 s2)] w fun e w' => e = .returned (.bool true) ∧ Below w.heap.size w w' := by
  have hq := commit_eql E1 l1 s1 E2 l2 s2 hl1 hl2 he1 hs1 he2 hs2
  obtain ⟨X1, rfl⟩ : ∃ x : Nat, E1 = (x : Int) := ⟨E1.toNat, by omega⟩
  obtain ⟨X2, rfl⟩ : ∃ x : Nat, E2 = (x : Int) := ⟨E2.toNat, by omega⟩
  obtain ⟨Y1, rfl⟩ : ∃ x : Nat, s1 = (x : Int) := ⟨s1.toNat, by omega⟩
  obtain ⟨Y2, rfl⟩ : ∃ x : Nat, s2 = (x : Int) := ⟨s2.toNat, by omega⟩
  have HC1 := fun W => wcommit_any X1 l1 Y1 W hl1 (by omega) (by omega)
  have HC2 := fun W => wcommit_any X2 l2 Y2 W hl2 (by omega) (by omega)
  have hB : (cmtB X1 l1 Y1 == cmtB X2 l2 Y2) = decide ((X1 : Int) = X2 ∧ l1 = l2 ∧ (Y1 : Int) = Y2) := by
    have h := cmtB_inj X1 l1 Y1 X2 l2 Y2 (by omega) (by omega) (by omega) (by omega)
    by_cases hh : X1 = X2 ∧ l1 = l2 ∧ Y1 = Y2
    · rw [h.2 hh, decide_eq_true ⟨by omega, hh.2.1, by omega⟩]; simp
    · rw [decide_eq_false (fun h2 => hh ⟨by omega, h2.2.1, by omega⟩), beq_eq_false_iff_ne]
      exact fun h2 => hh (h.1 h2)
  have c1l := cmtC_length (X1 : Int) l1 (Y1 : Int) hl1
  have c2l := cmtC_length (X2 : Int) l2 (Y2 : Int) hl2
  obtain ⟨C1, hC1⟩ : ∃ C, C = (cmtC (X1 : Int) l1 (Y1 : Int)).toList := ⟨_, rfl⟩
  obtain ⟨C2, hC2⟩ : ∃ C, C = (cmtC (X2 : Int) l2 (Y2 : Int)).toList := ⟨_, rfl⟩
  have hD1 : cmtC (X1 : Int) l1 (Y1 : Int) = C1.toArray := by rw [hC1]
  have hD2 : cmtC (X2 : Int) l2 (Y2 : Int) = C2.toArray := by rw [hC2]
  rw [← hC1] at c1l
  rw [← hC2] at c2l
  rw [hD1] at HC1 hq ⊢
  rw [hD2] at HC2 hq ⊢
  obtain ⟨B1, hB1⟩ : ∃ B, B = cmtB X1 l1 Y1 := ⟨_, rfl⟩
  obtain ⟨B2, hB2⟩ : ∃ B, B = cmtB X2 l2 Y2 := ⟨_, rfl⟩
  obtain ⟨r, hr⟩ : ∃ r, r = decide ((X1 : Int) = X2 ∧ l1 = l2 ∧ (Y1 : Int) = Y2) := ⟨_, rfl⟩
  rw [← hB1] at HC1 hB
  rw [← hB2] at HC2 hB
  rw [← hr] at hB hq
  have HC1 := Lib.hid HC1
  have HC2 := Lib.hid HC2
  have HQ := Lib.hid hq
  have HB := Lib.hid hB
  have hi1 : (Try.prog.info? 50).map (·.size) = some C1.length := by rw [c1l]; kernel_rfl
  have hi2 : (Try.prog.info? 50).map (·.size) = some C2.length := by rw [c2l]; kernel_rfl
  have HI1 := Lib.hid hi1
  have HI2 := Lib.hid hi2
  clear hq hB hr hB1 hB2 hC1 hC2 hD1 hD2 c1l c2l hl1 hl2 he1 hs1 he2 hs2 hi1 hi2
  obtain ⟨W, hW⟩ : ∃ W, W = (((w.alloc (.cells #[.int .i64 k1, .int .u64 p1, .slice A1 n1 c1] 45)).alloc (.cells #[.int .i64 k2, .int .u64 p2, .slice A2 n2 c2] 45)).alloc (.cells C1.toArray 50)).alloc (.cells C2.toArray 50) := ⟨_, rfl⟩
  obtain ⟨xa, hxa⟩ : ∃ x, x = w.heap.size := ⟨_, rfl⟩
  have hb0 : Below w.heap.size w W := by rw [hW]; exact ((((Below.refl _ _).alloc (Nat.le_refl _) _).alloc (by simp) _).alloc (by simp; omega) _).alloc (by simp; omega) _
  have h4 := four_alloc w (.cells #[.int .i64 k1, .int .u64 p1, .slice A1 n1 c1] 45) (.cells #[.int .i64 k2, .int .u64 p2, .slice A2 n2 c2] 45) (.cells C1.toArray 50) (.cells C2.toArray 50)
  rw [← hW, ← hxa] at h4
  obtain ⟨xb, hxb⟩ : ∃ x, x = xa + 1 := ⟨_, rfl⟩
  obtain ⟨xc, hxc⟩ : ∃ x, x = xb + 1 := ⟨_, rfl⟩
  obtain ⟨xd, hxd⟩ : ∃ x, x = xc + 1 := ⟨_, rfl⟩
  rw [show xa + 2 = xc from by omega, show xa + 3 = xd from by omega, ← hxb] at h4
  obtain ⟨ra, rb, rc0, rd0⟩ := h4
  have rc := range_row rc0
  have rd := range_row rd0
  have hX1 := hX1.below hb0
  have hX2 := hX2.below hb0
  have HSP := Lib.hid (node_speaks W)
  have HB0 := Lib.hid hb0
  by_cases h500 : 500 < n1 ∨ 500 < n2
  · by_cases h501 : 500 < n1
    · clear h500
      go_enter Try.func8, Try.ntmps8
      go_wp2_with fail
      rw [← hW]
      simp only [← hxa]
      simp only [← hxb]
      simp only [← hxc]
      simp only [← hxd]
      clear hW hxa hxb hxc hxd rc0 rd0
      obtain ⟨x0, x1, x2⟩ := box_cells ra
      obtain ⟨y0, y1, y2⟩ := box_cells rb
      go_wp2_with (go_at_call 20; refine HSP.out.mono ?_; rintro e w1 ⟨rfl, hb1⟩; have ra1 := box_below ra hb1; have rb1 := box_below rb hb1; obtain ⟨x0, x1, x2⟩ := box_cells ra1; obtain ⟨y0, y1, y2⟩ := box_cells rb1; have hq1 := HB0.out.trans (hb1.mono HB0.out.size))
      go_ret
      exact ⟨rfl, hq1⟩
    · have h502 : 500 < n2 := by omega
      clear h500
      go_enter Try.func8, Try.ntmps8
      go_wp2_with fail
      rw [← hW]
      simp only [← hxa]
      simp only [← hxb]
      simp only [← hxc]
      simp only [← hxd]
      clear hW hxa hxb hxc hxd rc0 rd0
      obtain ⟨x0, x1, x2⟩ := box_cells ra
      obtain ⟨y0, y1, y2⟩ := box_cells rb
      go_wp2_with (go_at_call 20; refine HSP.out.mono ?_; rintro e w1 ⟨rfl, hb1⟩; have ra1 := box_below ra hb1; have rb1 := box_below rb hb1; obtain ⟨x0, x1, x2⟩ := box_cells ra1; obtain ⟨y0, y1, y2⟩ := box_cells rb1; have hq1 := HB0.out.trans (hb1.mono HB0.out.size))
      go_ret
      exact ⟨rfl, hq1⟩
  have h501 : n1 ≤ 500 := by omega
  have h502 : n2 ≤ 500 := by omega
  clear h500
  by_cases hg1 : 0 ≤ k1 ∧ k1 < 256 ∧ n1 ≤ 224
  · by_cases hg2 : 0 ≤ k2 ∧ k2 < 256 ∧ n2 ≤ 224
    · have tok : True := trivial
      obtain ⟨K1, rfl⟩ : ∃ K : Nat, k1 = (K : Int) := ⟨k1.toNat, by omega⟩
      obtain ⟨P1, rfl⟩ : ∃ P : Nat, p1 = (P : Int) := ⟨p1.toNat, by omega⟩
      have hK1 : K1 < 256 := by omega
      have hP1 : P1 < 18446744073709551616 := by omega
      have hN1 : n1 ≤ 224 := by omega
      have HW1 := Lib.hid (fun W h => write_ok K1 P1 A1 n1 c1 b1 W hK1 hP1 hN1 h)
      obtain ⟨K2, rfl⟩ : ∃ K : Nat, k2 = (K : Int) := ⟨k2.toNat, by omega⟩
      obtain ⟨P2, rfl⟩ : ∃ P : Nat, p2 = (P : Int) := ⟨p2.toNat, by omega⟩
      have hK2 : K2 < 256 := by omega
      have hP2 : P2 < 18446744073709551616 := by omega
      have hN2 : n2 ≤ 224 := by omega
      have HW2 := Lib.hid (fun W h => write_ok K2 P2 A2 n2 c2 b2 W hK2 hP2 hN2 h)
      have HSm := Lib.hid (fun W h1 h2 => same_any (K1 : Int) (P1 : Int) (K2 : Int) (P2 : Int) A1 n1 c1 b1 A2 n2 c2 b2 W h1 h2)
      have hBN : (nodeB K1 P1 b1 == nodeB K2 P2 b2) = decide ((K1 : Int) = K2 ∧ (P1 : Int) = P2 ∧ b1 = b2) := by
        have h := nodeB_inj K1 P1 b1 K2 P2 b2 hK1 hP1 hK2 hP2
        by_cases hh : K1 = K2 ∧ P1 = P2 ∧ b1 = b2
        · rw [h.2 hh, decide_eq_true ⟨by omega, by omega, hh.2.2⟩]; simp
        · rw [decide_eq_false (fun h2 => hh ⟨by omega, by omega, h2.2.2⟩), beq_eq_false_iff_ne]
          exact fun h2 => hh (h.1 h2)
      obtain ⟨r7, hr7⟩ : ∃ r, r = decide ((K1 : Int) = K2 ∧ (P1 : Int) = P2 ∧ b1 = b2) := ⟨_, rfl⟩
      obtain ⟨N1, hN1'⟩ : ∃ N, N = nodeB K1 P1 b1 := ⟨_, rfl⟩
      obtain ⟨N2, hN2'⟩ : ∃ N, N = nodeB K2 P2 b2 := ⟨_, rfl⟩
      rw [← hN1'] at HW1 hBN
      rw [← hN2'] at HW2 hBN
      rw [← hr7] at hBN HSm
      have HBN := Lib.hid hBN
      clear hBN hr7 hN1' hN2'
      go_enter Try.func8, Try.ntmps8
      go_wp2_with fail
      rw [← hW]
      simp only [← hxa]
      simp only [← hxb]
      simp only [← hxc]
      simp only [← hxd]
      clear hW hxa hxb hxc hxd rc0 rd0
      obtain ⟨x0, x1, x2⟩ := box_cells ra
      obtain ⟨y0, y1, y2⟩ := box_cells rb
      go_wp2_with (first
        | (go_at_call 20; refine HSP.out.mono ?_; rintro e w1 ⟨rfl, hb1⟩; have ra1 := box_below ra hb1; have rb1 := box_below rb hb1; obtain ⟨x0, x1, x2⟩ := box_cells ra1; obtain ⟨y0, y1, y2⟩ := box_cells rb1; have hq1 := HB0.out.trans (hb1.mono HB0.out.size))
        | (go_at_call 21; have _t := tok; refine (HW1.out _ (by exact hX1.below hb1)).mono ?_; rintro e w4 ⟨v4, rfl, hf4, hb4⟩; obtain ⟨A4, c4, rfl, _, _, _⟩ := id hf4.1; have hq4 := hq1.trans (hb4.mono hq1.size); have ra4 := box_below ra1 hb4; have rb4 := box_below rb1 hb4; obtain ⟨x0, x1, x2⟩ := box_cells ra4; obtain ⟨y0, y1, y2⟩ := box_cells rb4; have rc4 := range_below (range_below rc hb1) hb4; have rd4 := range_below (range_below rd hb1) hb4; have hXb4 := (hX2.below hb1).below hb4; clear _t tok)
        | (go_at_call 21; refine (HW2.out _ (by exact hXb4)).mono ?_; rintro e w5 ⟨v5, rfl, hf5, hb5⟩; obtain ⟨A5, c5, rfl, _, _, _⟩ := id hf5.1; have hq5 := hq4.trans (hb5.mono hq4.size); have ra5 := box_below ra4 hb5; have rb5 := box_below rb4 hb5; obtain ⟨x0, x1, x2⟩ := box_cells ra5; obtain ⟨y0, y1, y2⟩ := box_cells rb5; have rc5 := range_below rc4 hb5; have rd5 := range_below rd4 hb5; have hXa5 := ((hX1.below hb1).below hb4).below hb5; have hXb5 := hXb4.below hb5; have hf45 := hf4.1.below hb5))
      have hBN := HBN.out
      have hs4 := run_str (hf45.below (Below.refl w5.heap.size w5).drew)
      have hs5 := run_str (hf5.1.below (Below.refl w5.heap.size w5).drew)
      have hXad := hXa5.below (Below.refl w5.heap.size w5).drew
      have hXbd := hXb5.below (Below.refl w5.heap.size w5).drew
      go_region_held3 (fun w' => w'.cell? ⟨xa, 0, none⟩ = some (.int .i64 (K1 : Int)) ∧ w'.cell? ⟨xa, 1, none⟩ = some (.int .u64 (P1 : Int)) ∧ w'.cell? ⟨xa, 2, none⟩ = some (.slice A1 n1 c1) ∧ w'.cell? ⟨xb, 0, none⟩ = some (.int .i64 (K2 : Int)) ∧ w'.cell? ⟨xb, 1, none⟩ = some (.int .u64 (P2 : Int)) ∧ w'.cell? ⟨xb, 2, none⟩ = some (.slice A2 n2 c2) ∧ (convert 22 9 (.slice A4 N1.length c4)).run Try.prog w' = .ok (.string (str N1)) w' ∧ (convert 22 9 (.slice A5 N2.length c5)).run Try.prog w' = .ok (.string (str N2)) w') (first | assumption | exact ⟨x0, x1, x2, y0, y1, y2, hs6, hs7⟩ | exact ⟨x0, x1, x2, y0, y1, y2, hs4, hs5⟩)
        ((first
          | (go_at_call 22; refine (HSm.out _ (by exact hXad) (by exact hXbd)).mono ?_; rintro e w8 ⟨rfl, hb8⟩; have hq8 := hq5.drew.trans (hb8.mono hq5.drew.size); have ra8 := box_below ra5 ((Below.refl w5.heap.size w5).drew.trans (hb8.mono (Nat.le_refl _))); have rb8 := box_below rb5 ((Below.refl w5.heap.size w5).drew.trans (hb8.mono (Nat.le_refl _))); obtain ⟨x0, x1, x2⟩ := box_cells ra8; obtain ⟨y0, y1, y2⟩ := box_cells rb8; have rc8 := range_below (range_below rc5 (Below.refl w5.heap.size w5).drew) hb8; have rd8 := range_below (range_below rd5 (Below.refl w5.heap.size w5).drew) hb8; have hs6 := run_str ((hf45.below (Below.refl w5.heap.size w5).drew).below hb8); have hs7 := run_str ((hf5.1.below (Below.refl w5.heap.size w5).drew).below hb8))))
      all_goals
        go_wp2
        have hu := Try.underlying50
        have hi1 := HI1.out
        have hi2 := HI2.out
        have hqd := hq8.drew
        have rcd := range_below rc8 (Below.refl w8.heap.size w8).drew
        have rdd := range_below rd8 (Below.refl w8.heap.size w8).drew
        refine wp_region_held_drew (S := fun w' => w'.rangeAt xc 0 C1 ∧ w'.rangeAt xd 0 C2) (by kernel_rfl) ⟨rcd, rdd⟩ (fun _ => ?_)
        refine' wpAnyH_take (i := 0) (oi := _) (v := _) rfl (by kernel_rfl) (by kernel_rfl) (by kernel_rfl) (fun _ _ _ h => h) (yieldsIf_load_mid (by rfl) _ _ rfl _ _ rfl _ _ (fun w h => h.1) hu (by rfl) hi1) ⟨rcd, rdd⟩ ?_
        simp only [Act.put, List.setIfInBounds_toArray, List.set_cons_zero, List.set_cons_succ]
        refine' wpAnyH_take (i := 3) (oi := _) (v := _) rfl (by kernel_rfl) (by kernel_rfl) (by kernel_rfl) (fun _ _ _ h => h) (yieldsIf_load_mid (by rfl) _ _ rfl _ _ rfl _ _ (fun w h => h.2) hu (by rfl) hi2) ⟨rcd, rdd⟩ ?_
        simp only [Act.put, List.setIfInBounds_toArray, List.set_cons_zero, List.set_cons_succ]
        refine' wpAnyH_take (i := 7) (oi := _) (v := _) rfl (by kernel_rfl) (by kernel_rfl) (by kernel_rfl) (fun _ _ _ h => h) (yieldsIf_load_mid (by rfl) _ _ rfl _ _ rfl _ _ (fun w h => h.1) hu (by rfl) hi1) ⟨rcd, rdd⟩ ?_
        simp only [Act.put, List.setIfInBounds_toArray, List.set_cons_zero, List.set_cons_succ]
        refine' wpAnyH_take (i := 8) (oi := _) (v := _) rfl (by kernel_rfl) (by kernel_rfl) (by kernel_rfl) (fun _ _ _ h => h) (yieldsIf_load_mid (by rfl) _ _ rfl _ _ rfl _ _ (fun w h => h.2) hu (by rfl) hi2) ⟨rcd, rdd⟩ ?_
        simp only [Act.put, List.setIfInBounds_toArray, List.set_cons_zero, List.set_cons_succ]
        have hq9 : ∀ w : World, (binOp .eql 50 (.agg C1.toArray) (.agg C2.toArray)).run Try.prog w = .ok (.bool r) w := fun w => by rw [run_eql_struct, HQ.out]; rfl
        have HQ9 := Lib.hid hq9
        clear hq9
        refine wpAnyH_take (i := 9) (oi := _) (v := .bool r) rfl (by kernel_rfl) (by kernel_rfl) (by kernel_rfl) (fun _ _ _ h => h) (Or.inl ⟨by rfl, fun w _ => eql_exec _ _ _ _ _ _ _ _ rfl ⟨rfl, rfl⟩ (by kernel_rfl) (HQ9.out w)⟩) ⟨rcd, rdd⟩ ?_
        try simp only [Act.put, List.setIfInBounds_toArray, List.set_cons_zero, List.set_cons_succ]
        refine wpAnyH_ready (rs := [1]) (by kernel_rfl) (by simp) ?_
        refine AllReadyH.cons (o := ({ dst := some 53, op := Op.call { callee := Callee.value (Operand.func 23), args := #[Operand.tmp 52], argTypes := #[50] }, type := 22, pos := "law.go:137", after := #[{ on := 0, ground := Ground.data }], guard := none } : Oper)) rfl (fun K hK => ?_) AllReadyH.nil
        go_simp
        go_at_call 23
        refine (HC1.out _).mono ?_
        rintro e w10 ⟨v10, rfl, hf10, hb10⟩
        obtain ⟨A10, c10, rfl, _, _, _⟩ := id hf10.1
        have hs10 := run_str hf10.1
        have rc10 := range_below rcd hb10
        have rd10 := range_below rdd hb10
        have hq10 := hqd.trans (hb10.mono hqd.size)
        refine hK.out _ _ ⟨rc10, rd10⟩ (fun _ => ?_)
        clear hK K
        try simp only [Act.put, List.setIfInBounds_toArray, List.set_cons_zero, List.set_cons_succ]
        refine wpAnyH_ready (rs := [2, 4]) (by kernel_rfl) (by simp) ?_
        refine AllReadyH.cons (o := ({ dst := some 54, op := Op.convert 22 9 (Operand.tmp 53), type := 9, pos := "law.go:137", after := #[{ on := 1, ground := Ground.data }], guard := none } : Oper)) rfl (fun K hK => ?_) (AllReadyH.cons (o := ({ dst := some 56, op := Op.call { callee := Callee.value (Operand.func 23), args := #[Operand.tmp 55], argTypes := #[50] }, type := 22, pos := "law.go:137", after := #[{ on := 3, ground := Ground.data }, { on := 1, ground := Ground.chain }], guard := none } : Oper)) rfl (fun K hK => ?_) AllReadyH.nil)
        · go_simp
          refine hK.out _ _ ⟨rc10, rd10⟩ (fun _ => ?_)
          clear hK K
          try simp only [Act.put, List.setIfInBounds_toArray, List.set_cons_zero, List.set_cons_succ]
          refine wpAnyH_ready (rs := [4]) (by kernel_rfl) (by simp) ?_
          refine AllReadyH.cons (o := ({ dst := some 56, op := Op.call { callee := Callee.value (Operand.func 23), args := #[Operand.tmp 55], argTypes := #[50] }, type := 22, pos := "law.go:137", after := #[{ on := 3, ground := Ground.data }, { on := 1, ground := Ground.chain }], guard := none } : Oper)) rfl (fun K hK => ?_) AllReadyH.nil
          go_simp
          go_at_call 23
          refine (HC2.out _).mono ?_
          rintro e w11 ⟨v11, rfl, hf11, hb11⟩
          obtain ⟨A11, c11, rfl, _, _, _⟩ := id hf11.1
          have hs11 := run_str hf11.1
          have hs12 := run_str (hf10.1.below hb11)
          have rc11 := range_below rc10 hb11
          have rd11 := range_below rd10 hb11
          have hq11 := hq10.trans (hb11.mono hq10.size)
          refine hK.out _ _ ⟨rc11, rd11⟩ (fun _ => ?_)
          clear hK K
          try simp only [Act.put, List.setIfInBounds_toArray, List.set_cons_zero, List.set_cons_succ]
          refine wpAnyH_ready (rs := [5]) (by kernel_rfl) (by simp) ?_
          refine AllReadyH.cons (o := ({ dst := some 57, op := Op.convert 22 9 (Operand.tmp 56), type := 9, pos := "law.go:137", after := #[{ on := 4, ground := Ground.data }], guard := none } : Oper)) rfl (fun K hK => ?_) AllReadyH.nil
          go_simp
          refine hK.out _ _ ⟨rc11, rd11⟩ (fun _ => ?_)
          clear hK K
          try simp only [Act.put, List.setIfInBounds_toArray, List.set_cons_zero, List.set_cons_succ]
          refine wpAnyH_ready (rs := [6]) (by kernel_rfl) (by simp) ?_
          refine AllReadyH.cons (o := ({ dst := some 58, op := Op.binOp BinOp.eql 9 (Operand.tmp 54) (Operand.tmp 57) 9, type := 4, pos := "law.go:137", after := #[{ on := 2, ground := Ground.data }, { on := 5, ground := Ground.data }], guard := none } : Oper)) rfl (fun K hK => ?_) AllReadyH.nil
          go_simp
          refine hK.out _ _ ⟨rc11, rd11⟩ (fun _ => ?_)
          clear hK K
          try simp only [Act.put, List.setIfInBounds_toArray, List.set_cons_zero, List.set_cons_succ]
          refine wpAnyH_ready (rs := [10]) (by kernel_rfl) (by simp) ?_
          refine AllReadyH.cons (o := ({ dst := some 62, op := Op.binOp BinOp.eql 4 (Operand.tmp 58) (Operand.tmp 61) 4, type := 4, pos := "law.go:137", after := #[{ on := 6, ground := Ground.data }, { on := 9, ground := Ground.data }], guard := none } : Oper)) rfl (fun K hK => ?_) AllReadyH.nil
          go_simp
          refine hK.out _ _ ⟨rc11, rd11⟩ (fun _ => ?_)
          clear hK K
          try simp only [Act.put, List.setIfInBounds_toArray, List.set_cons_zero, List.set_cons_succ]
          refine wpAnyH_ready (rs := [11]) (by kernel_rfl) (by simp) ?_
          refine AllReadyH.cons (o := ({ dst := some 8, op := Op.assign (Operand.tmp 62), type := 4, pos := "law.go:137", after := #[{ on := 10, ground := Ground.data }, { on := 4, ground := Ground.chain }, { on := 0, ground := Ground.phase }, { on := 1, ground := Ground.phase }, { on := 2, ground := Ground.phase }, { on := 3, ground := Ground.phase }, { on := 4, ground := Ground.phase }, { on := 5, ground := Ground.phase }, { on := 6, ground := Ground.phase }, { on := 7, ground := Ground.phase }, { on := 8, ground := Ground.phase }, { on := 9, ground := Ground.phase }, { on := 10, ground := Ground.phase }], guard := none } : Oper)) rfl (fun K hK => ?_) AllReadyH.nil
          go_simp
          refine hK.out _ _ ⟨rc11, rd11⟩ (fun _ => ?_)
          clear hK K
          try simp only [Act.put, List.setIfInBounds_toArray, List.set_cons_zero, List.set_cons_succ]
          refine wpAnyH_done (by kernel_rfl) ?_ _
          go_wp2
          go_ret
          refine ⟨?_, hq11⟩
          show Ending.returned (Value.bool _) = _
          rw [HB.out]
          simp
        · go_simp
          go_at_call 23
          refine (HC2.out _).mono ?_
          rintro e w11 ⟨v11, rfl, hf11, hb11⟩
          obtain ⟨A11, c11, rfl, _, _, _⟩ := id hf11.1
          have hs11 := run_str hf11.1
          have hs12 := run_str (hf10.1.below hb11)
          have rc11 := range_below rc10 hb11
          have rd11 := range_below rd10 hb11
          have hq11 := hq10.trans (hb11.mono hq10.size)
          refine hK.out _ _ ⟨rc11, rd11⟩ (fun _ => ?_)
          clear hK K
          try simp only [Act.put, List.setIfInBounds_toArray, List.set_cons_zero, List.set_cons_succ]
          refine wpAnyH_ready (rs := [2, 5]) (by kernel_rfl) (by simp) ?_
          refine AllReadyH.cons (o := ({ dst := some 54, op := Op.convert 22 9 (Operand.tmp 53), type := 9, pos := "law.go:137", after := #[{ on := 1, ground := Ground.data }], guard := none } : Oper)) rfl (fun K hK => ?_) (AllReadyH.cons (o := ({ dst := some 57, op := Op.convert 22 9 (Operand.tmp 56), type := 9, pos := "law.go:137", after := #[{ on := 4, ground := Ground.data }], guard := none } : Oper)) rfl (fun K hK => ?_) AllReadyH.nil)
          · go_simp
            refine hK.out _ _ ⟨rc11, rd11⟩ (fun _ => ?_)
            clear hK K
            try simp only [Act.put, List.setIfInBounds_toArray, List.set_cons_zero, List.set_cons_succ]
            refine wpAnyH_ready (rs := [5]) (by kernel_rfl) (by simp) ?_
            refine AllReadyH.cons (o := ({ dst := some 57, op := Op.convert 22 9 (Operand.tmp 56), type := 9, pos := "law.go:137", after := #[{ on := 4, ground := Ground.data }], guard := none } : Oper)) rfl (fun K hK => ?_) AllReadyH.nil
            go_simp
            refine hK.out _ _ ⟨rc11, rd11⟩ (fun _ => ?_)
            clear hK K
            try simp only [Act.put, List.setIfInBounds_toArray, List.set_cons_zero, List.set_cons_succ]
            refine wpAnyH_ready (rs := [6]) (by kernel_rfl) (by simp) ?_
            refine AllReadyH.cons (o := ({ dst := some 58, op := Op.binOp BinOp.eql 9 (Operand.tmp 54) (Operand.tmp 57) 9, type := 4, pos := "law.go:137", after := #[{ on := 2, ground := Ground.data }, { on := 5, ground := Ground.data }], guard := none } : Oper)) rfl (fun K hK => ?_) AllReadyH.nil
            go_simp
            refine hK.out _ _ ⟨rc11, rd11⟩ (fun _ => ?_)
            clear hK K
            try simp only [Act.put, List.setIfInBounds_toArray, List.set_cons_zero, List.set_cons_succ]
            refine wpAnyH_ready (rs := [10]) (by kernel_rfl) (by simp) ?_
            refine AllReadyH.cons (o := ({ dst := some 62, op := Op.binOp BinOp.eql 4 (Operand.tmp 58) (Operand.tmp 61) 4, type := 4, pos := "law.go:137", after := #[{ on := 6, ground := Ground.data }, { on := 9, ground := Ground.data }], guard := none } : Oper)) rfl (fun K hK => ?_) AllReadyH.nil
            go_simp
            refine hK.out _ _ ⟨rc11, rd11⟩ (fun _ => ?_)
            clear hK K
            try simp only [Act.put, List.setIfInBounds_toArray, List.set_cons_zero, List.set_cons_succ]
            refine wpAnyH_ready (rs := [11]) (by kernel_rfl) (by simp) ?_
            refine AllReadyH.cons (o := ({ dst := some 8, op := Op.assign (Operand.tmp 62), type := 4, pos := "law.go:137", after := #[{ on := 10, ground := Ground.data }, { on := 4, ground := Ground.chain }, { on := 0, ground := Ground.phase }, { on := 1, ground := Ground.phase }, { on := 2, ground := Ground.phase }, { on := 3, ground := Ground.phase }, { on := 4, ground := Ground.phase }, { on := 5, ground := Ground.phase }, { on := 6, ground := Ground.phase }, { on := 7, ground := Ground.phase }, { on := 8, ground := Ground.phase }, { on := 9, ground := Ground.phase }, { on := 10, ground := Ground.phase }], guard := none } : Oper)) rfl (fun K hK => ?_) AllReadyH.nil
            go_simp
            refine hK.out _ _ ⟨rc11, rd11⟩ (fun _ => ?_)
            clear hK K
            try simp only [Act.put, List.setIfInBounds_toArray, List.set_cons_zero, List.set_cons_succ]
            refine wpAnyH_done (by kernel_rfl) ?_ _
            go_wp2
            go_ret
            refine ⟨?_, hq11⟩
            show Ending.returned (Value.bool _) = _
            rw [HB.out]
            simp
          · go_simp
            refine hK.out _ _ ⟨rc11, rd11⟩ (fun _ => ?_)
            clear hK K
            try simp only [Act.put, List.setIfInBounds_toArray, List.set_cons_zero, List.set_cons_succ]
            refine wpAnyH_ready (rs := [2]) (by kernel_rfl) (by simp) ?_
            refine AllReadyH.cons (o := ({ dst := some 54, op := Op.convert 22 9 (Operand.tmp 53), type := 9, pos := "law.go:137", after := #[{ on := 1, ground := Ground.data }], guard := none } : Oper)) rfl (fun K hK => ?_) AllReadyH.nil
            go_simp
            refine hK.out _ _ ⟨rc11, rd11⟩ (fun _ => ?_)
            clear hK K
            try simp only [Act.put, List.setIfInBounds_toArray, List.set_cons_zero, List.set_cons_succ]
            refine wpAnyH_ready (rs := [6]) (by kernel_rfl) (by simp) ?_
            refine AllReadyH.cons (o := ({ dst := some 58, op := Op.binOp BinOp.eql 9 (Operand.tmp 54) (Operand.tmp 57) 9, type := 4, pos := "law.go:137", after := #[{ on := 2, ground := Ground.data }, { on := 5, ground := Ground.data }], guard := none } : Oper)) rfl (fun K hK => ?_) AllReadyH.nil
            go_simp
            refine hK.out _ _ ⟨rc11, rd11⟩ (fun _ => ?_)
            clear hK K
            try simp only [Act.put, List.setIfInBounds_toArray, List.set_cons_zero, List.set_cons_succ]
            refine wpAnyH_ready (rs := [10]) (by kernel_rfl) (by simp) ?_
            refine AllReadyH.cons (o := ({ dst := some 62, op := Op.binOp BinOp.eql 4 (Operand.tmp 58) (Operand.tmp 61) 4, type := 4, pos := "law.go:137", after := #[{ on := 6, ground := Ground.data }, { on := 9, ground := Ground.data }], guard := none } : Oper)) rfl (fun K hK => ?_) AllReadyH.nil
            go_simp
            refine hK.out _ _ ⟨rc11, rd11⟩ (fun _ => ?_)
            clear hK K
            try simp only [Act.put, List.setIfInBounds_toArray, List.set_cons_zero, List.set_cons_succ]
            refine wpAnyH_ready (rs := [11]) (by kernel_rfl) (by simp) ?_
            refine AllReadyH.cons (o := ({ dst := some 8, op := Op.assign (Operand.tmp 62), type := 4, pos := "law.go:137", after := #[{ on := 10, ground := Ground.data }, { on := 4, ground := Ground.chain }, { on := 0, ground := Ground.phase }, { on := 1, ground := Ground.phase }, { on := 2, ground := Ground.phase }, { on := 3, ground := Ground.phase }, { on := 4, ground := Ground.phase }, { on := 5, ground := Ground.phase }, { on := 6, ground := Ground.phase }, { on := 7, ground := Ground.phase }, { on := 8, ground := Ground.phase }, { on := 9, ground := Ground.phase }, { on := 10, ground := Ground.phase }], guard := none } : Oper)) rfl (fun K hK => ?_) AllReadyH.nil
            go_simp
            refine hK.out _ _ ⟨rc11, rd11⟩ (fun _ => ?_)
            clear hK K
            try simp only [Act.put, List.setIfInBounds_toArray, List.set_cons_zero, List.set_cons_succ]
            refine wpAnyH_done (by kernel_rfl) ?_ _
            go_wp2
            go_ret
            refine ⟨?_, hq11⟩
            show Ending.returned (Value.bool _) = _
            rw [HB.out]
            simp
    · have tok : True := trivial
      obtain ⟨K1, rfl⟩ : ∃ K : Nat, k1 = (K : Int) := ⟨k1.toNat, by omega⟩
      obtain ⟨P1, rfl⟩ : ∃ P : Nat, p1 = (P : Int) := ⟨p1.toNat, by omega⟩
      have hK1 : K1 < 256 := by omega
      have hP1 : P1 < 18446744073709551616 := by omega
      have hN1 : n1 ≤ 224 := by omega
      have HW1 := Lib.hid (fun W h => write_ok K1 P1 A1 n1 c1 b1 W hK1 hP1 hN1 h)
      have hbad2 : k2 < 0 ∨ 256 ≤ k2 ∨ 224 < n2 := by omega
      have HW2 := Lib.hid (fun W => write_neg k2 p2 A2 n2 c2 W hbad2)
      clear hbad2
      go_enter Try.func8, Try.ntmps8
      go_wp2_with fail
      rw [← hW]
      simp only [← hxa]
      simp only [← hxb]
      simp only [← hxc]
      simp only [← hxd]
      clear hW hxa hxb hxc hxd rc0 rd0
      obtain ⟨x0, x1, x2⟩ := box_cells ra
      obtain ⟨y0, y1, y2⟩ := box_cells rb
      go_wp2_with (first
        | (go_at_call 20; refine HSP.out.mono ?_; rintro e w1 ⟨rfl, hb1⟩; have ra1 := box_below ra hb1; have rb1 := box_below rb hb1; obtain ⟨x0, x1, x2⟩ := box_cells ra1; obtain ⟨y0, y1, y2⟩ := box_cells rb1; have hq1 := HB0.out.trans (hb1.mono HB0.out.size))
        | (go_at_call 21; have _t := tok; refine (HW1.out _ (by exact hX1.below hb1)).mono ?_; rintro e w4 ⟨v4, rfl, hf4, hb4⟩; obtain ⟨A4, c4, rfl, _, _, _⟩ := id hf4.1; have hq4 := hq1.trans (hb4.mono hq1.size); have ra4 := box_below ra1 hb4; have rb4 := box_below rb1 hb4; obtain ⟨x0, x1, x2⟩ := box_cells ra4; obtain ⟨y0, y1, y2⟩ := box_cells rb4; have rc4 := range_below (range_below rc hb1) hb4; have rd4 := range_below (range_below rd hb1) hb4; have hXb4 := (hX2.below hb1).below hb4; clear _t tok)
        | (go_at_call 21; refine (HW2.out _).mono ?_; rintro e w5 ⟨rfl, hb5⟩; have hq5 := hq4.trans (hb5.mono hq4.size); have ra5 := box_below ra4 hb5; have rb5 := box_below rb4 hb5; obtain ⟨x0, x1, x2⟩ := box_cells ra5; obtain ⟨y0, y1, y2⟩ := box_cells rb5; have rc5 := range_below rc4 hb5; have rd5 := range_below rd4 hb5; have hXa5 := ((hX1.below hb1).below hb4).below hb5; have hXb5 := hXb4.below hb5; have hf45 := hf4.1.below hb5))
      go_quiet (fail)
      have hbn : Below w5.heap.size w5 (w5.drewN nq) := ⟨rfl, rfl, rfl, Nat.le_refl _, fun _ _ => rfl⟩
      have hqn := hq5.trans (hbn.mono hq5.size)
      have rcn := range_below rc5 hbn
      have rdn := range_below rd5 hbn
      obtain ⟨w8, hw8⟩ : ∃ x, x = w5.drewN nq := ⟨_, rfl⟩
      rw [← hw8] at hqn rcn rdn hbn ⊢
      clear hw8
      go_wp2
      have hu := Try.underlying50
      have hi1 := HI1.out
      have hi2 := HI2.out
      have hqd := hqn.drew
      have rcd := range_below rcn (Below.refl w8.heap.size w8).drew
      have rdd := range_below rdn (Below.refl w8.heap.size w8).drew
      refine wp_region_held_drew (S := fun w' => w'.rangeAt xc 0 C1 ∧ w'.rangeAt xd 0 C2) (by kernel_rfl) ⟨rcd, rdd⟩ (fun _ => ?_)
      refine' wpAnyH_take (i := 0) (oi := _) (v := _) rfl (by kernel_rfl) (by kernel_rfl) (by kernel_rfl) (fun _ _ _ h => h) (yieldsIf_load_mid (by rfl) _ _ rfl _ _ rfl _ _ (fun w h => h.1) hu (by rfl) hi1) ⟨rcd, rdd⟩ ?_
      simp only [Act.put, List.setIfInBounds_toArray, List.set_cons_zero, List.set_cons_succ]
      refine' wpAnyH_take (i := 3) (oi := _) (v := _) rfl (by kernel_rfl) (by kernel_rfl) (by kernel_rfl) (fun _ _ _ h => h) (yieldsIf_load_mid (by rfl) _ _ rfl _ _ rfl _ _ (fun w h => h.2) hu (by rfl) hi2) ⟨rcd, rdd⟩ ?_
      simp only [Act.put, List.setIfInBounds_toArray, List.set_cons_zero, List.set_cons_succ]
      refine' wpAnyH_take (i := 7) (oi := _) (v := _) rfl (by kernel_rfl) (by kernel_rfl) (by kernel_rfl) (fun _ _ _ h => h) (yieldsIf_load_mid (by rfl) _ _ rfl _ _ rfl _ _ (fun w h => h.1) hu (by rfl) hi1) ⟨rcd, rdd⟩ ?_
      simp only [Act.put, List.setIfInBounds_toArray, List.set_cons_zero, List.set_cons_succ]
      refine' wpAnyH_take (i := 8) (oi := _) (v := _) rfl (by kernel_rfl) (by kernel_rfl) (by kernel_rfl) (fun _ _ _ h => h) (yieldsIf_load_mid (by rfl) _ _ rfl _ _ rfl _ _ (fun w h => h.2) hu (by rfl) hi2) ⟨rcd, rdd⟩ ?_
      simp only [Act.put, List.setIfInBounds_toArray, List.set_cons_zero, List.set_cons_succ]
      have hq9 : ∀ w : World, (binOp .eql 50 (.agg C1.toArray) (.agg C2.toArray)).run Try.prog w = .ok (.bool r) w := fun w => by rw [run_eql_struct, HQ.out]; rfl
      have HQ9 := Lib.hid hq9
      clear hq9
      refine wpAnyH_take (i := 9) (oi := _) (v := .bool r) rfl (by kernel_rfl) (by kernel_rfl) (by kernel_rfl) (fun _ _ _ h => h) (Or.inl ⟨by rfl, fun w _ => eql_exec _ _ _ _ _ _ _ _ rfl ⟨rfl, rfl⟩ (by kernel_rfl) (HQ9.out w)⟩) ⟨rcd, rdd⟩ ?_
      try simp only [Act.put, List.setIfInBounds_toArray, List.set_cons_zero, List.set_cons_succ]
      refine wpAnyH_ready (rs := [1]) (by kernel_rfl) (by simp) ?_
      refine AllReadyH.cons (o := ({ dst := some 53, op := Op.call { callee := Callee.value (Operand.func 23), args := #[Operand.tmp 52], argTypes := #[50] }, type := 22, pos := "law.go:137", after := #[{ on := 0, ground := Ground.data }], guard := none } : Oper)) rfl (fun K hK => ?_) AllReadyH.nil
      go_simp
      go_at_call 23
      refine (HC1.out _).mono ?_
      rintro e w10 ⟨v10, rfl, hf10, hb10⟩
      obtain ⟨A10, c10, rfl, _, _, _⟩ := id hf10.1
      have hs10 := run_str hf10.1
      have rc10 := range_below rcd hb10
      have rd10 := range_below rdd hb10
      have hq10 := hqd.trans (hb10.mono hqd.size)
      refine hK.out _ _ ⟨rc10, rd10⟩ (fun _ => ?_)
      clear hK K
      try simp only [Act.put, List.setIfInBounds_toArray, List.set_cons_zero, List.set_cons_succ]
      refine wpAnyH_ready (rs := [2, 4]) (by kernel_rfl) (by simp) ?_
      refine AllReadyH.cons (o := ({ dst := some 54, op := Op.convert 22 9 (Operand.tmp 53), type := 9, pos := "law.go:137", after := #[{ on := 1, ground := Ground.data }], guard := none } : Oper)) rfl (fun K hK => ?_) (AllReadyH.cons (o := ({ dst := some 56, op := Op.call { callee := Callee.value (Operand.func 23), args := #[Operand.tmp 55], argTypes := #[50] }, type := 22, pos := "law.go:137", after := #[{ on := 3, ground := Ground.data }, { on := 1, ground := Ground.chain }], guard := none } : Oper)) rfl (fun K hK => ?_) AllReadyH.nil)
      · go_simp
        refine hK.out _ _ ⟨rc10, rd10⟩ (fun _ => ?_)
        clear hK K
        try simp only [Act.put, List.setIfInBounds_toArray, List.set_cons_zero, List.set_cons_succ]
        refine wpAnyH_ready (rs := [4]) (by kernel_rfl) (by simp) ?_
        refine AllReadyH.cons (o := ({ dst := some 56, op := Op.call { callee := Callee.value (Operand.func 23), args := #[Operand.tmp 55], argTypes := #[50] }, type := 22, pos := "law.go:137", after := #[{ on := 3, ground := Ground.data }, { on := 1, ground := Ground.chain }], guard := none } : Oper)) rfl (fun K hK => ?_) AllReadyH.nil
        go_simp
        go_at_call 23
        refine (HC2.out _).mono ?_
        rintro e w11 ⟨v11, rfl, hf11, hb11⟩
        obtain ⟨A11, c11, rfl, _, _, _⟩ := id hf11.1
        have hs11 := run_str hf11.1
        have hs12 := run_str (hf10.1.below hb11)
        have rc11 := range_below rc10 hb11
        have rd11 := range_below rd10 hb11
        have hq11 := hq10.trans (hb11.mono hq10.size)
        refine hK.out _ _ ⟨rc11, rd11⟩ (fun _ => ?_)
        clear hK K
        try simp only [Act.put, List.setIfInBounds_toArray, List.set_cons_zero, List.set_cons_succ]
        refine wpAnyH_ready (rs := [5]) (by kernel_rfl) (by simp) ?_
        refine AllReadyH.cons (o := ({ dst := some 57, op := Op.convert 22 9 (Operand.tmp 56), type := 9, pos := "law.go:137", after := #[{ on := 4, ground := Ground.data }], guard := none } : Oper)) rfl (fun K hK => ?_) AllReadyH.nil
        go_simp
        refine hK.out _ _ ⟨rc11, rd11⟩ (fun _ => ?_)
        clear hK K
        try simp only [Act.put, List.setIfInBounds_toArray, List.set_cons_zero, List.set_cons_succ]
        refine wpAnyH_ready (rs := [6]) (by kernel_rfl) (by simp) ?_
        refine AllReadyH.cons (o := ({ dst := some 58, op := Op.binOp BinOp.eql 9 (Operand.tmp 54) (Operand.tmp 57) 9, type := 4, pos := "law.go:137", after := #[{ on := 2, ground := Ground.data }, { on := 5, ground := Ground.data }], guard := none } : Oper)) rfl (fun K hK => ?_) AllReadyH.nil
        go_simp
        refine hK.out _ _ ⟨rc11, rd11⟩ (fun _ => ?_)
        clear hK K
        try simp only [Act.put, List.setIfInBounds_toArray, List.set_cons_zero, List.set_cons_succ]
        refine wpAnyH_ready (rs := [10]) (by kernel_rfl) (by simp) ?_
        refine AllReadyH.cons (o := ({ dst := some 62, op := Op.binOp BinOp.eql 4 (Operand.tmp 58) (Operand.tmp 61) 4, type := 4, pos := "law.go:137", after := #[{ on := 6, ground := Ground.data }, { on := 9, ground := Ground.data }], guard := none } : Oper)) rfl (fun K hK => ?_) AllReadyH.nil
        go_simp
        refine hK.out _ _ ⟨rc11, rd11⟩ (fun _ => ?_)
        clear hK K
        try simp only [Act.put, List.setIfInBounds_toArray, List.set_cons_zero, List.set_cons_succ]
        refine wpAnyH_ready (rs := [11]) (by kernel_rfl) (by simp) ?_
        refine AllReadyH.cons (o := ({ dst := some 8, op := Op.assign (Operand.tmp 62), type := 4, pos := "law.go:137", after := #[{ on := 10, ground := Ground.data }, { on := 4, ground := Ground.chain }, { on := 0, ground := Ground.phase }, { on := 1, ground := Ground.phase }, { on := 2, ground := Ground.phase }, { on := 3, ground := Ground.phase }, { on := 4, ground := Ground.phase }, { on := 5, ground := Ground.phase }, { on := 6, ground := Ground.phase }, { on := 7, ground := Ground.phase }, { on := 8, ground := Ground.phase }, { on := 9, ground := Ground.phase }, { on := 10, ground := Ground.phase }], guard := none } : Oper)) rfl (fun K hK => ?_) AllReadyH.nil
        go_simp
        refine hK.out _ _ ⟨rc11, rd11⟩ (fun _ => ?_)
        clear hK K
        try simp only [Act.put, List.setIfInBounds_toArray, List.set_cons_zero, List.set_cons_succ]
        refine wpAnyH_done (by kernel_rfl) ?_ _
        go_wp2
        go_ret
        refine ⟨?_, hq11⟩
        show Ending.returned (Value.bool _) = _
        rw [HB.out]
        simp
      · go_simp
        go_at_call 23
        refine (HC2.out _).mono ?_
        rintro e w11 ⟨v11, rfl, hf11, hb11⟩
        obtain ⟨A11, c11, rfl, _, _, _⟩ := id hf11.1
        have hs11 := run_str hf11.1
        have hs12 := run_str (hf10.1.below hb11)
        have rc11 := range_below rc10 hb11
        have rd11 := range_below rd10 hb11
        have hq11 := hq10.trans (hb11.mono hq10.size)
        refine hK.out _ _ ⟨rc11, rd11⟩ (fun _ => ?_)
        clear hK K
        try simp only [Act.put, List.setIfInBounds_toArray, List.set_cons_zero, List.set_cons_succ]
        refine wpAnyH_ready (rs := [2, 5]) (by kernel_rfl) (by simp) ?_
        refine AllReadyH.cons (o := ({ dst := some 54, op := Op.convert 22 9 (Operand.tmp 53), type := 9, pos := "law.go:137", after := #[{ on := 1, ground := Ground.data }], guard := none } : Oper)) rfl (fun K hK => ?_) (AllReadyH.cons (o := ({ dst := some 57, op := Op.convert 22 9 (Operand.tmp 56), type := 9, pos := "law.go:137", after := #[{ on := 4, ground := Ground.data }], guard := none } : Oper)) rfl (fun K hK => ?_) AllReadyH.nil)
        · go_simp
          refine hK.out _ _ ⟨rc11, rd11⟩ (fun _ => ?_)
          clear hK K
          try simp only [Act.put, List.setIfInBounds_toArray, List.set_cons_zero, List.set_cons_succ]
          refine wpAnyH_ready (rs := [5]) (by kernel_rfl) (by simp) ?_
          refine AllReadyH.cons (o := ({ dst := some 57, op := Op.convert 22 9 (Operand.tmp 56), type := 9, pos := "law.go:137", after := #[{ on := 4, ground := Ground.data }], guard := none } : Oper)) rfl (fun K hK => ?_) AllReadyH.nil
          go_simp
          refine hK.out _ _ ⟨rc11, rd11⟩ (fun _ => ?_)
          clear hK K
          try simp only [Act.put, List.setIfInBounds_toArray, List.set_cons_zero, List.set_cons_succ]
          refine wpAnyH_ready (rs := [6]) (by kernel_rfl) (by simp) ?_
          refine AllReadyH.cons (o := ({ dst := some 58, op := Op.binOp BinOp.eql 9 (Operand.tmp 54) (Operand.tmp 57) 9, type := 4, pos := "law.go:137", after := #[{ on := 2, ground := Ground.data }, { on := 5, ground := Ground.data }], guard := none } : Oper)) rfl (fun K hK => ?_) AllReadyH.nil
          go_simp
          refine hK.out _ _ ⟨rc11, rd11⟩ (fun _ => ?_)
          clear hK K
          try simp only [Act.put, List.setIfInBounds_toArray, List.set_cons_zero, List.set_cons_succ]
          refine wpAnyH_ready (rs := [10]) (by kernel_rfl) (by simp) ?_
          refine AllReadyH.cons (o := ({ dst := some 62, op := Op.binOp BinOp.eql 4 (Operand.tmp 58) (Operand.tmp 61) 4, type := 4, pos := "law.go:137", after := #[{ on := 6, ground := Ground.data }, { on := 9, ground := Ground.data }], guard := none } : Oper)) rfl (fun K hK => ?_) AllReadyH.nil
          go_simp
          refine hK.out _ _ ⟨rc11, rd11⟩ (fun _ => ?_)
          clear hK K
          try simp only [Act.put, List.setIfInBounds_toArray, List.set_cons_zero, List.set_cons_succ]
          refine wpAnyH_ready (rs := [11]) (by kernel_rfl) (by simp) ?_
          refine AllReadyH.cons (o := ({ dst := some 8, op := Op.assign (Operand.tmp 62), type := 4, pos := "law.go:137", after := #[{ on := 10, ground := Ground.data }, { on := 4, ground := Ground.chain }, { on := 0, ground := Ground.phase }, { on := 1, ground := Ground.phase }, { on := 2, ground := Ground.phase }, { on := 3, ground := Ground.phase }, { on := 4, ground := Ground.phase }, { on := 5, ground := Ground.phase }, { on := 6, ground := Ground.phase }, { on := 7, ground := Ground.phase }, { on := 8, ground := Ground.phase }, { on := 9, ground := Ground.phase }, { on := 10, ground := Ground.phase }], guard := none } : Oper)) rfl (fun K hK => ?_) AllReadyH.nil
          go_simp
          refine hK.out _ _ ⟨rc11, rd11⟩ (fun _ => ?_)
          clear hK K
          try simp only [Act.put, List.setIfInBounds_toArray, List.set_cons_zero, List.set_cons_succ]
          refine wpAnyH_done (by kernel_rfl) ?_ _
          go_wp2
          go_ret
          refine ⟨?_, hq11⟩
          show Ending.returned (Value.bool _) = _
          rw [HB.out]
          simp
        · go_simp
          refine hK.out _ _ ⟨rc11, rd11⟩ (fun _ => ?_)
          clear hK K
          try simp only [Act.put, List.setIfInBounds_toArray, List.set_cons_zero, List.set_cons_succ]
          refine wpAnyH_ready (rs := [2]) (by kernel_rfl) (by simp) ?_
          refine AllReadyH.cons (o := ({ dst := some 54, op := Op.convert 22 9 (Operand.tmp 53), type := 9, pos := "law.go:137", after := #[{ on := 1, ground := Ground.data }], guard := none } : Oper)) rfl (fun K hK => ?_) AllReadyH.nil
          go_simp
          refine hK.out _ _ ⟨rc11, rd11⟩ (fun _ => ?_)
          clear hK K
          try simp only [Act.put, List.setIfInBounds_toArray, List.set_cons_zero, List.set_cons_succ]
          refine wpAnyH_ready (rs := [6]) (by kernel_rfl) (by simp) ?_
          refine AllReadyH.cons (o := ({ dst := some 58, op := Op.binOp BinOp.eql 9 (Operand.tmp 54) (Operand.tmp 57) 9, type := 4, pos := "law.go:137", after := #[{ on := 2, ground := Ground.data }, { on := 5, ground := Ground.data }], guard := none } : Oper)) rfl (fun K hK => ?_) AllReadyH.nil
          go_simp
          refine hK.out _ _ ⟨rc11, rd11⟩ (fun _ => ?_)
          clear hK K
          try simp only [Act.put, List.setIfInBounds_toArray, List.set_cons_zero, List.set_cons_succ]
          refine wpAnyH_ready (rs := [10]) (by kernel_rfl) (by simp) ?_
          refine AllReadyH.cons (o := ({ dst := some 62, op := Op.binOp BinOp.eql 4 (Operand.tmp 58) (Operand.tmp 61) 4, type := 4, pos := "law.go:137", after := #[{ on := 6, ground := Ground.data }, { on := 9, ground := Ground.data }], guard := none } : Oper)) rfl (fun K hK => ?_) AllReadyH.nil
          go_simp
          refine hK.out _ _ ⟨rc11, rd11⟩ (fun _ => ?_)
          clear hK K
          try simp only [Act.put, List.setIfInBounds_toArray, List.set_cons_zero, List.set_cons_succ]
          refine wpAnyH_ready (rs := [11]) (by kernel_rfl) (by simp) ?_
          refine AllReadyH.cons (o := ({ dst := some 8, op := Op.assign (Operand.tmp 62), type := 4, pos := "law.go:137", after := #[{ on := 10, ground := Ground.data }, { on := 4, ground := Ground.chain }, { on := 0, ground := Ground.phase }, { on := 1, ground := Ground.phase }, { on := 2, ground := Ground.phase }, { on := 3, ground := Ground.phase }, { on := 4, ground := Ground.phase }, { on := 5, ground := Ground.phase }, { on := 6, ground := Ground.phase }, { on := 7, ground := Ground.phase }, { on := 8, ground := Ground.phase }, { on := 9, ground := Ground.phase }, { on := 10, ground := Ground.phase }], guard := none } : Oper)) rfl (fun K hK => ?_) AllReadyH.nil
          go_simp
          refine hK.out _ _ ⟨rc11, rd11⟩ (fun _ => ?_)
          clear hK K
          try simp only [Act.put, List.setIfInBounds_toArray, List.set_cons_zero, List.set_cons_succ]
          refine wpAnyH_done (by kernel_rfl) ?_ _
          go_wp2
          go_ret
          refine ⟨?_, hq11⟩
          show Ending.returned (Value.bool _) = _
          rw [HB.out]
          simp
  · by_cases hg2 : 0 ≤ k2 ∧ k2 < 256 ∧ n2 ≤ 224
    · have tok : True := trivial
      have hbad1 : k1 < 0 ∨ 256 ≤ k1 ∨ 224 < n1 := by omega
      have HW1 := Lib.hid (fun W => write_neg k1 p1 A1 n1 c1 W hbad1)
      clear hbad1
      obtain ⟨K2, rfl⟩ : ∃ K : Nat, k2 = (K : Int) := ⟨k2.toNat, by omega⟩
      obtain ⟨P2, rfl⟩ : ∃ P : Nat, p2 = (P : Int) := ⟨p2.toNat, by omega⟩
      have hK2 : K2 < 256 := by omega
      have hP2 : P2 < 18446744073709551616 := by omega
      have hN2 : n2 ≤ 224 := by omega
      have HW2 := Lib.hid (fun W h => write_ok K2 P2 A2 n2 c2 b2 W hK2 hP2 hN2 h)
      go_enter Try.func8, Try.ntmps8
      go_wp2_with fail
      rw [← hW]
      simp only [← hxa]
      simp only [← hxb]
      simp only [← hxc]
      simp only [← hxd]
      clear hW hxa hxb hxc hxd rc0 rd0
      obtain ⟨x0, x1, x2⟩ := box_cells ra
      obtain ⟨y0, y1, y2⟩ := box_cells rb
      go_wp2_with (first
        | (go_at_call 20; refine HSP.out.mono ?_; rintro e w1 ⟨rfl, hb1⟩; have ra1 := box_below ra hb1; have rb1 := box_below rb hb1; obtain ⟨x0, x1, x2⟩ := box_cells ra1; obtain ⟨y0, y1, y2⟩ := box_cells rb1; have hq1 := HB0.out.trans (hb1.mono HB0.out.size))
        | (go_at_call 21; have _t := tok; refine (HW1.out _).mono ?_; rintro e w4 ⟨rfl, hb4⟩; have hq4 := hq1.trans (hb4.mono hq1.size); have ra4 := box_below ra1 hb4; have rb4 := box_below rb1 hb4; obtain ⟨x0, x1, x2⟩ := box_cells ra4; obtain ⟨y0, y1, y2⟩ := box_cells rb4; have rc4 := range_below (range_below rc hb1) hb4; have rd4 := range_below (range_below rd hb1) hb4; have hXb4 := (hX2.below hb1).below hb4; clear _t tok)
        | (go_at_call 21; refine (HW2.out _ (by exact hXb4)).mono ?_; rintro e w5 ⟨v5, rfl, hf5, hb5⟩; obtain ⟨A5, c5, rfl, _, _, _⟩ := id hf5.1; have hq5 := hq4.trans (hb5.mono hq4.size); have ra5 := box_below ra4 hb5; have rb5 := box_below rb4 hb5; obtain ⟨x0, x1, x2⟩ := box_cells ra5; obtain ⟨y0, y1, y2⟩ := box_cells rb5; have rc5 := range_below rc4 hb5; have rd5 := range_below rd4 hb5; have hXa5 := ((hX1.below hb1).below hb4).below hb5; have hXb5 := hXb4.below hb5))
      go_quiet (fail)
      have hbn : Below w5.heap.size w5 (w5.drewN nq) := ⟨rfl, rfl, rfl, Nat.le_refl _, fun _ _ => rfl⟩
      have hqn := hq5.trans (hbn.mono hq5.size)
      have rcn := range_below rc5 hbn
      have rdn := range_below rd5 hbn
      obtain ⟨w8, hw8⟩ : ∃ x, x = w5.drewN nq := ⟨_, rfl⟩
      rw [← hw8] at hqn rcn rdn hbn ⊢
      clear hw8
      go_wp2
      have hu := Try.underlying50
      have hi1 := HI1.out
      have hi2 := HI2.out
      have hqd := hqn.drew
      have rcd := range_below rcn (Below.refl w8.heap.size w8).drew
      have rdd := range_below rdn (Below.refl w8.heap.size w8).drew
      refine wp_region_held_drew (S := fun w' => w'.rangeAt xc 0 C1 ∧ w'.rangeAt xd 0 C2) (by kernel_rfl) ⟨rcd, rdd⟩ (fun _ => ?_)
      refine' wpAnyH_take (i := 0) (oi := _) (v := _) rfl (by kernel_rfl) (by kernel_rfl) (by kernel_rfl) (fun _ _ _ h => h) (yieldsIf_load_mid (by rfl) _ _ rfl _ _ rfl _ _ (fun w h => h.1) hu (by rfl) hi1) ⟨rcd, rdd⟩ ?_
      simp only [Act.put, List.setIfInBounds_toArray, List.set_cons_zero, List.set_cons_succ]
      refine' wpAnyH_take (i := 3) (oi := _) (v := _) rfl (by kernel_rfl) (by kernel_rfl) (by kernel_rfl) (fun _ _ _ h => h) (yieldsIf_load_mid (by rfl) _ _ rfl _ _ rfl _ _ (fun w h => h.2) hu (by rfl) hi2) ⟨rcd, rdd⟩ ?_
      simp only [Act.put, List.setIfInBounds_toArray, List.set_cons_zero, List.set_cons_succ]
      refine' wpAnyH_take (i := 7) (oi := _) (v := _) rfl (by kernel_rfl) (by kernel_rfl) (by kernel_rfl) (fun _ _ _ h => h) (yieldsIf_load_mid (by rfl) _ _ rfl _ _ rfl _ _ (fun w h => h.1) hu (by rfl) hi1) ⟨rcd, rdd⟩ ?_
      simp only [Act.put, List.setIfInBounds_toArray, List.set_cons_zero, List.set_cons_succ]
      refine' wpAnyH_take (i := 8) (oi := _) (v := _) rfl (by kernel_rfl) (by kernel_rfl) (by kernel_rfl) (fun _ _ _ h => h) (yieldsIf_load_mid (by rfl) _ _ rfl _ _ rfl _ _ (fun w h => h.2) hu (by rfl) hi2) ⟨rcd, rdd⟩ ?_
      simp only [Act.put, List.setIfInBounds_toArray, List.set_cons_zero, List.set_cons_succ]
      have hq9 : ∀ w : World, (binOp .eql 50 (.agg C1.toArray) (.agg C2.toArray)).run Try.prog w = .ok (.bool r) w := fun w => by rw [run_eql_struct, HQ.out]; rfl
      have HQ9 := Lib.hid hq9
      clear hq9
      refine wpAnyH_take (i := 9) (oi := _) (v := .bool r) rfl (by kernel_rfl) (by kernel_rfl) (by kernel_rfl) (fun _ _ _ h => h) (Or.inl ⟨by rfl, fun w _ => eql_exec _ _ _ _ _ _ _ _ rfl ⟨rfl, rfl⟩ (by kernel_rfl) (HQ9.out w)⟩) ⟨rcd, rdd⟩ ?_
      try simp only [Act.put, List.setIfInBounds_toArray, List.set_cons_zero, List.set_cons_succ]
      refine wpAnyH_ready (rs := [1]) (by kernel_rfl) (by simp) ?_
      refine AllReadyH.cons (o := ({ dst := some 53, op := Op.call { callee := Callee.value (Operand.func 23), args := #[Operand.tmp 52], argTypes := #[50] }, type := 22, pos := "law.go:137", after := #[{ on := 0, ground := Ground.data }], guard := none } : Oper)) rfl (fun K hK => ?_) AllReadyH.nil
      go_simp
      go_at_call 23
      refine (HC1.out _).mono ?_
      rintro e w10 ⟨v10, rfl, hf10, hb10⟩
      obtain ⟨A10, c10, rfl, _, _, _⟩ := id hf10.1
      have hs10 := run_str hf10.1
      have rc10 := range_below rcd hb10
      have rd10 := range_below rdd hb10
      have hq10 := hqd.trans (hb10.mono hqd.size)
      refine hK.out _ _ ⟨rc10, rd10⟩ (fun _ => ?_)
      clear hK K
      try simp only [Act.put, List.setIfInBounds_toArray, List.set_cons_zero, List.set_cons_succ]
      refine wpAnyH_ready (rs := [2, 4]) (by kernel_rfl) (by simp) ?_
      refine AllReadyH.cons (o := ({ dst := some 54, op := Op.convert 22 9 (Operand.tmp 53), type := 9, pos := "law.go:137", after := #[{ on := 1, ground := Ground.data }], guard := none } : Oper)) rfl (fun K hK => ?_) (AllReadyH.cons (o := ({ dst := some 56, op := Op.call { callee := Callee.value (Operand.func 23), args := #[Operand.tmp 55], argTypes := #[50] }, type := 22, pos := "law.go:137", after := #[{ on := 3, ground := Ground.data }, { on := 1, ground := Ground.chain }], guard := none } : Oper)) rfl (fun K hK => ?_) AllReadyH.nil)
      · go_simp
        refine hK.out _ _ ⟨rc10, rd10⟩ (fun _ => ?_)
        clear hK K
        try simp only [Act.put, List.setIfInBounds_toArray, List.set_cons_zero, List.set_cons_succ]
        refine wpAnyH_ready (rs := [4]) (by kernel_rfl) (by simp) ?_
        refine AllReadyH.cons (o := ({ dst := some 56, op := Op.call { callee := Callee.value (Operand.func 23), args := #[Operand.tmp 55], argTypes := #[50] }, type := 22, pos := "law.go:137", after := #[{ on := 3, ground := Ground.data }, { on := 1, ground := Ground.chain }], guard := none } : Oper)) rfl (fun K hK => ?_) AllReadyH.nil
        go_simp
        go_at_call 23
        refine (HC2.out _).mono ?_
        rintro e w11 ⟨v11, rfl, hf11, hb11⟩
        obtain ⟨A11, c11, rfl, _, _, _⟩ := id hf11.1
        have hs11 := run_str hf11.1
        have hs12 := run_str (hf10.1.below hb11)
        have rc11 := range_below rc10 hb11
        have rd11 := range_below rd10 hb11
        have hq11 := hq10.trans (hb11.mono hq10.size)
        refine hK.out _ _ ⟨rc11, rd11⟩ (fun _ => ?_)
        clear hK K
        try simp only [Act.put, List.setIfInBounds_toArray, List.set_cons_zero, List.set_cons_succ]
        refine wpAnyH_ready (rs := [5]) (by kernel_rfl) (by simp) ?_
        refine AllReadyH.cons (o := ({ dst := some 57, op := Op.convert 22 9 (Operand.tmp 56), type := 9, pos := "law.go:137", after := #[{ on := 4, ground := Ground.data }], guard := none } : Oper)) rfl (fun K hK => ?_) AllReadyH.nil
        go_simp
        refine hK.out _ _ ⟨rc11, rd11⟩ (fun _ => ?_)
        clear hK K
        try simp only [Act.put, List.setIfInBounds_toArray, List.set_cons_zero, List.set_cons_succ]
        refine wpAnyH_ready (rs := [6]) (by kernel_rfl) (by simp) ?_
        refine AllReadyH.cons (o := ({ dst := some 58, op := Op.binOp BinOp.eql 9 (Operand.tmp 54) (Operand.tmp 57) 9, type := 4, pos := "law.go:137", after := #[{ on := 2, ground := Ground.data }, { on := 5, ground := Ground.data }], guard := none } : Oper)) rfl (fun K hK => ?_) AllReadyH.nil
        go_simp
        refine hK.out _ _ ⟨rc11, rd11⟩ (fun _ => ?_)
        clear hK K
        try simp only [Act.put, List.setIfInBounds_toArray, List.set_cons_zero, List.set_cons_succ]
        refine wpAnyH_ready (rs := [10]) (by kernel_rfl) (by simp) ?_
        refine AllReadyH.cons (o := ({ dst := some 62, op := Op.binOp BinOp.eql 4 (Operand.tmp 58) (Operand.tmp 61) 4, type := 4, pos := "law.go:137", after := #[{ on := 6, ground := Ground.data }, { on := 9, ground := Ground.data }], guard := none } : Oper)) rfl (fun K hK => ?_) AllReadyH.nil
        go_simp
        refine hK.out _ _ ⟨rc11, rd11⟩ (fun _ => ?_)
        clear hK K
        try simp only [Act.put, List.setIfInBounds_toArray, List.set_cons_zero, List.set_cons_succ]
        refine wpAnyH_ready (rs := [11]) (by kernel_rfl) (by simp) ?_
        refine AllReadyH.cons (o := ({ dst := some 8, op := Op.assign (Operand.tmp 62), type := 4, pos := "law.go:137", after := #[{ on := 10, ground := Ground.data }, { on := 4, ground := Ground.chain }, { on := 0, ground := Ground.phase }, { on := 1, ground := Ground.phase }, { on := 2, ground := Ground.phase }, { on := 3, ground := Ground.phase }, { on := 4, ground := Ground.phase }, { on := 5, ground := Ground.phase }, { on := 6, ground := Ground.phase }, { on := 7, ground := Ground.phase }, { on := 8, ground := Ground.phase }, { on := 9, ground := Ground.phase }, { on := 10, ground := Ground.phase }], guard := none } : Oper)) rfl (fun K hK => ?_) AllReadyH.nil
        go_simp
        refine hK.out _ _ ⟨rc11, rd11⟩ (fun _ => ?_)
        clear hK K
        try simp only [Act.put, List.setIfInBounds_toArray, List.set_cons_zero, List.set_cons_succ]
        refine wpAnyH_done (by kernel_rfl) ?_ _
        go_wp2
        go_ret
        refine ⟨?_, hq11⟩
        show Ending.returned (Value.bool _) = _
        rw [HB.out]
        simp
      · go_simp
        go_at_call 23
        refine (HC2.out _).mono ?_
        rintro e w11 ⟨v11, rfl, hf11, hb11⟩
        obtain ⟨A11, c11, rfl, _, _, _⟩ := id hf11.1
        have hs11 := run_str hf11.1
        have hs12 := run_str (hf10.1.below hb11)
        have rc11 := range_below rc10 hb11
        have rd11 := range_below rd10 hb11
        have hq11 := hq10.trans (hb11.mono hq10.size)
        refine hK.out _ _ ⟨rc11, rd11⟩ (fun _ => ?_)
        clear hK K
        try simp only [Act.put, List.setIfInBounds_toArray, List.set_cons_zero, List.set_cons_succ]
        refine wpAnyH_ready (rs := [2, 5]) (by kernel_rfl) (by simp) ?_
        refine AllReadyH.cons (o := ({ dst := some 54, op := Op.convert 22 9 (Operand.tmp 53), type := 9, pos := "law.go:137", after := #[{ on := 1, ground := Ground.data }], guard := none } : Oper)) rfl (fun K hK => ?_) (AllReadyH.cons (o := ({ dst := some 57, op := Op.convert 22 9 (Operand.tmp 56), type := 9, pos := "law.go:137", after := #[{ on := 4, ground := Ground.data }], guard := none } : Oper)) rfl (fun K hK => ?_) AllReadyH.nil)
        · go_simp
          refine hK.out _ _ ⟨rc11, rd11⟩ (fun _ => ?_)
          clear hK K
          try simp only [Act.put, List.setIfInBounds_toArray, List.set_cons_zero, List.set_cons_succ]
          refine wpAnyH_ready (rs := [5]) (by kernel_rfl) (by simp) ?_
          refine AllReadyH.cons (o := ({ dst := some 57, op := Op.convert 22 9 (Operand.tmp 56), type := 9, pos := "law.go:137", after := #[{ on := 4, ground := Ground.data }], guard := none } : Oper)) rfl (fun K hK => ?_) AllReadyH.nil
          go_simp
          refine hK.out _ _ ⟨rc11, rd11⟩ (fun _ => ?_)
          clear hK K
          try simp only [Act.put, List.setIfInBounds_toArray, List.set_cons_zero, List.set_cons_succ]
          refine wpAnyH_ready (rs := [6]) (by kernel_rfl) (by simp) ?_
          refine AllReadyH.cons (o := ({ dst := some 58, op := Op.binOp BinOp.eql 9 (Operand.tmp 54) (Operand.tmp 57) 9, type := 4, pos := "law.go:137", after := #[{ on := 2, ground := Ground.data }, { on := 5, ground := Ground.data }], guard := none } : Oper)) rfl (fun K hK => ?_) AllReadyH.nil
          go_simp
          refine hK.out _ _ ⟨rc11, rd11⟩ (fun _ => ?_)
          clear hK K
          try simp only [Act.put, List.setIfInBounds_toArray, List.set_cons_zero, List.set_cons_succ]
          refine wpAnyH_ready (rs := [10]) (by kernel_rfl) (by simp) ?_
          refine AllReadyH.cons (o := ({ dst := some 62, op := Op.binOp BinOp.eql 4 (Operand.tmp 58) (Operand.tmp 61) 4, type := 4, pos := "law.go:137", after := #[{ on := 6, ground := Ground.data }, { on := 9, ground := Ground.data }], guard := none } : Oper)) rfl (fun K hK => ?_) AllReadyH.nil
          go_simp
          refine hK.out _ _ ⟨rc11, rd11⟩ (fun _ => ?_)
          clear hK K
          try simp only [Act.put, List.setIfInBounds_toArray, List.set_cons_zero, List.set_cons_succ]
          refine wpAnyH_ready (rs := [11]) (by kernel_rfl) (by simp) ?_
          refine AllReadyH.cons (o := ({ dst := some 8, op := Op.assign (Operand.tmp 62), type := 4, pos := "law.go:137", after := #[{ on := 10, ground := Ground.data }, { on := 4, ground := Ground.chain }, { on := 0, ground := Ground.phase }, { on := 1, ground := Ground.phase }, { on := 2, ground := Ground.phase }, { on := 3, ground := Ground.phase }, { on := 4, ground := Ground.phase }, { on := 5, ground := Ground.phase }, { on := 6, ground := Ground.phase }, { on := 7, ground := Ground.phase }, { on := 8, ground := Ground.phase }, { on := 9, ground := Ground.phase }, { on := 10, ground := Ground.phase }], guard := none } : Oper)) rfl (fun K hK => ?_) AllReadyH.nil
          go_simp
          refine hK.out _ _ ⟨rc11, rd11⟩ (fun _ => ?_)
          clear hK K
          try simp only [Act.put, List.setIfInBounds_toArray, List.set_cons_zero, List.set_cons_succ]
          refine wpAnyH_done (by kernel_rfl) ?_ _
          go_wp2
          go_ret
          refine ⟨?_, hq11⟩
          show Ending.returned (Value.bool _) = _
          rw [HB.out]
          simp
        · go_simp
          refine hK.out _ _ ⟨rc11, rd11⟩ (fun _ => ?_)
          clear hK K
          try simp only [Act.put, List.setIfInBounds_toArray, List.set_cons_zero, List.set_cons_succ]
          refine wpAnyH_ready (rs := [2]) (by kernel_rfl) (by simp) ?_
          refine AllReadyH.cons (o := ({ dst := some 54, op := Op.convert 22 9 (Operand.tmp 53), type := 9, pos := "law.go:137", after := #[{ on := 1, ground := Ground.data }], guard := none } : Oper)) rfl (fun K hK => ?_) AllReadyH.nil
          go_simp
          refine hK.out _ _ ⟨rc11, rd11⟩ (fun _ => ?_)
          clear hK K
          try simp only [Act.put, List.setIfInBounds_toArray, List.set_cons_zero, List.set_cons_succ]
          refine wpAnyH_ready (rs := [6]) (by kernel_rfl) (by simp) ?_
          refine AllReadyH.cons (o := ({ dst := some 58, op := Op.binOp BinOp.eql 9 (Operand.tmp 54) (Operand.tmp 57) 9, type := 4, pos := "law.go:137", after := #[{ on := 2, ground := Ground.data }, { on := 5, ground := Ground.data }], guard := none } : Oper)) rfl (fun K hK => ?_) AllReadyH.nil
          go_simp
          refine hK.out _ _ ⟨rc11, rd11⟩ (fun _ => ?_)
          clear hK K
          try simp only [Act.put, List.setIfInBounds_toArray, List.set_cons_zero, List.set_cons_succ]
          refine wpAnyH_ready (rs := [10]) (by kernel_rfl) (by simp) ?_
          refine AllReadyH.cons (o := ({ dst := some 62, op := Op.binOp BinOp.eql 4 (Operand.tmp 58) (Operand.tmp 61) 4, type := 4, pos := "law.go:137", after := #[{ on := 6, ground := Ground.data }, { on := 9, ground := Ground.data }], guard := none } : Oper)) rfl (fun K hK => ?_) AllReadyH.nil
          go_simp
          refine hK.out _ _ ⟨rc11, rd11⟩ (fun _ => ?_)
          clear hK K
          try simp only [Act.put, List.setIfInBounds_toArray, List.set_cons_zero, List.set_cons_succ]
          refine wpAnyH_ready (rs := [11]) (by kernel_rfl) (by simp) ?_
          refine AllReadyH.cons (o := ({ dst := some 8, op := Op.assign (Operand.tmp 62), type := 4, pos := "law.go:137", after := #[{ on := 10, ground := Ground.data }, { on := 4, ground := Ground.chain }, { on := 0, ground := Ground.phase }, { on := 1, ground := Ground.phase }, { on := 2, ground := Ground.phase }, { on := 3, ground := Ground.phase }, { on := 4, ground := Ground.phase }, { on := 5, ground := Ground.phase }, { on := 6, ground := Ground.phase }, { on := 7, ground := Ground.phase }, { on := 8, ground := Ground.phase }, { on := 9, ground := Ground.phase }, { on := 10, ground := Ground.phase }], guard := none } : Oper)) rfl (fun K hK => ?_) AllReadyH.nil
          go_simp
          refine hK.out _ _ ⟨rc11, rd11⟩ (fun _ => ?_)
          clear hK K
          try simp only [Act.put, List.setIfInBounds_toArray, List.set_cons_zero, List.set_cons_succ]
          refine wpAnyH_done (by kernel_rfl) ?_ _
          go_wp2
          go_ret
          refine ⟨?_, hq11⟩
          show Ending.returned (Value.bool _) = _
          rw [HB.out]
          simp
    · have tok : True := trivial
      have hbad1 : k1 < 0 ∨ 256 ≤ k1 ∨ 224 < n1 := by omega
      have HW1 := Lib.hid (fun W => write_neg k1 p1 A1 n1 c1 W hbad1)
      clear hbad1
      have hbad2 : k2 < 0 ∨ 256 ≤ k2 ∨ 224 < n2 := by omega
      have HW2 := Lib.hid (fun W => write_neg k2 p2 A2 n2 c2 W hbad2)
      clear hbad2
      go_enter Try.func8, Try.ntmps8
      go_wp2_with fail
      rw [← hW]
      simp only [← hxa]
      simp only [← hxb]
      simp only [← hxc]
      simp only [← hxd]
      clear hW hxa hxb hxc hxd rc0 rd0
      obtain ⟨x0, x1, x2⟩ := box_cells ra
      obtain ⟨y0, y1, y2⟩ := box_cells rb
      go_wp2_with (first
        | (go_at_call 20; refine HSP.out.mono ?_; rintro e w1 ⟨rfl, hb1⟩; have ra1 := box_below ra hb1; have rb1 := box_below rb hb1; obtain ⟨x0, x1, x2⟩ := box_cells ra1; obtain ⟨y0, y1, y2⟩ := box_cells rb1; have hq1 := HB0.out.trans (hb1.mono HB0.out.size))
        | (go_at_call 21; have _t := tok; refine (HW1.out _).mono ?_; rintro e w4 ⟨rfl, hb4⟩; have hq4 := hq1.trans (hb4.mono hq1.size); have ra4 := box_below ra1 hb4; have rb4 := box_below rb1 hb4; obtain ⟨x0, x1, x2⟩ := box_cells ra4; obtain ⟨y0, y1, y2⟩ := box_cells rb4; have rc4 := range_below (range_below rc hb1) hb4; have rd4 := range_below (range_below rd hb1) hb4; have hXb4 := (hX2.below hb1).below hb4; clear _t tok)
        | (go_at_call 21; refine (HW2.out _).mono ?_; rintro e w5 ⟨rfl, hb5⟩; have hq5 := hq4.trans (hb5.mono hq4.size); have ra5 := box_below ra4 hb5; have rb5 := box_below rb4 hb5; obtain ⟨x0, x1, x2⟩ := box_cells ra5; obtain ⟨y0, y1, y2⟩ := box_cells rb5; have rc5 := range_below rc4 hb5; have rd5 := range_below rd4 hb5; have hXa5 := ((hX1.below hb1).below hb4).below hb5; have hXb5 := hXb4.below hb5))
      go_quiet (fail)
      have hbn : Below w5.heap.size w5 (w5.drewN nq) := ⟨rfl, rfl, rfl, Nat.le_refl _, fun _ _ => rfl⟩
      have hqn := hq5.trans (hbn.mono hq5.size)
      have rcn := range_below rc5 hbn
      have rdn := range_below rd5 hbn
      obtain ⟨w8, hw8⟩ : ∃ x, x = w5.drewN nq := ⟨_, rfl⟩
      rw [← hw8] at hqn rcn rdn hbn ⊢
      clear hw8
      go_wp2
      have hu := Try.underlying50
      have hi1 := HI1.out
      have hi2 := HI2.out
      have hqd := hqn.drew
      have rcd := range_below rcn (Below.refl w8.heap.size w8).drew
      have rdd := range_below rdn (Below.refl w8.heap.size w8).drew
      refine wp_region_held_drew (S := fun w' => w'.rangeAt xc 0 C1 ∧ w'.rangeAt xd 0 C2) (by kernel_rfl) ⟨rcd, rdd⟩ (fun _ => ?_)
      refine' wpAnyH_take (i := 0) (oi := _) (v := _) rfl (by kernel_rfl) (by kernel_rfl) (by kernel_rfl) (fun _ _ _ h => h) (yieldsIf_load_mid (by rfl) _ _ rfl _ _ rfl _ _ (fun w h => h.1) hu (by rfl) hi1) ⟨rcd, rdd⟩ ?_
      simp only [Act.put, List.setIfInBounds_toArray, List.set_cons_zero, List.set_cons_succ]
      refine' wpAnyH_take (i := 3) (oi := _) (v := _) rfl (by kernel_rfl) (by kernel_rfl) (by kernel_rfl) (fun _ _ _ h => h) (yieldsIf_load_mid (by rfl) _ _ rfl _ _ rfl _ _ (fun w h => h.2) hu (by rfl) hi2) ⟨rcd, rdd⟩ ?_
      simp only [Act.put, List.setIfInBounds_toArray, List.set_cons_zero, List.set_cons_succ]
      refine' wpAnyH_take (i := 7) (oi := _) (v := _) rfl (by kernel_rfl) (by kernel_rfl) (by kernel_rfl) (fun _ _ _ h => h) (yieldsIf_load_mid (by rfl) _ _ rfl _ _ rfl _ _ (fun w h => h.1) hu (by rfl) hi1) ⟨rcd, rdd⟩ ?_
      simp only [Act.put, List.setIfInBounds_toArray, List.set_cons_zero, List.set_cons_succ]
      refine' wpAnyH_take (i := 8) (oi := _) (v := _) rfl (by kernel_rfl) (by kernel_rfl) (by kernel_rfl) (fun _ _ _ h => h) (yieldsIf_load_mid (by rfl) _ _ rfl _ _ rfl _ _ (fun w h => h.2) hu (by rfl) hi2) ⟨rcd, rdd⟩ ?_
      simp only [Act.put, List.setIfInBounds_toArray, List.set_cons_zero, List.set_cons_succ]
      have hq9 : ∀ w : World, (binOp .eql 50 (.agg C1.toArray) (.agg C2.toArray)).run Try.prog w = .ok (.bool r) w := fun w => by rw [run_eql_struct, HQ.out]; rfl
      have HQ9 := Lib.hid hq9
      clear hq9
      refine wpAnyH_take (i := 9) (oi := _) (v := .bool r) rfl (by kernel_rfl) (by kernel_rfl) (by kernel_rfl) (fun _ _ _ h => h) (Or.inl ⟨by rfl, fun w _ => eql_exec _ _ _ _ _ _ _ _ rfl ⟨rfl, rfl⟩ (by kernel_rfl) (HQ9.out w)⟩) ⟨rcd, rdd⟩ ?_
      try simp only [Act.put, List.setIfInBounds_toArray, List.set_cons_zero, List.set_cons_succ]
      refine wpAnyH_ready (rs := [1]) (by kernel_rfl) (by simp) ?_
      refine AllReadyH.cons (o := ({ dst := some 53, op := Op.call { callee := Callee.value (Operand.func 23), args := #[Operand.tmp 52], argTypes := #[50] }, type := 22, pos := "law.go:137", after := #[{ on := 0, ground := Ground.data }], guard := none } : Oper)) rfl (fun K hK => ?_) AllReadyH.nil
      go_simp
      go_at_call 23
      refine (HC1.out _).mono ?_
      rintro e w10 ⟨v10, rfl, hf10, hb10⟩
      obtain ⟨A10, c10, rfl, _, _, _⟩ := id hf10.1
      have hs10 := run_str hf10.1
      have rc10 := range_below rcd hb10
      have rd10 := range_below rdd hb10
      have hq10 := hqd.trans (hb10.mono hqd.size)
      refine hK.out _ _ ⟨rc10, rd10⟩ (fun _ => ?_)
      clear hK K
      try simp only [Act.put, List.setIfInBounds_toArray, List.set_cons_zero, List.set_cons_succ]
      refine wpAnyH_ready (rs := [2, 4]) (by kernel_rfl) (by simp) ?_
      refine AllReadyH.cons (o := ({ dst := some 54, op := Op.convert 22 9 (Operand.tmp 53), type := 9, pos := "law.go:137", after := #[{ on := 1, ground := Ground.data }], guard := none } : Oper)) rfl (fun K hK => ?_) (AllReadyH.cons (o := ({ dst := some 56, op := Op.call { callee := Callee.value (Operand.func 23), args := #[Operand.tmp 55], argTypes := #[50] }, type := 22, pos := "law.go:137", after := #[{ on := 3, ground := Ground.data }, { on := 1, ground := Ground.chain }], guard := none } : Oper)) rfl (fun K hK => ?_) AllReadyH.nil)
      · go_simp
        refine hK.out _ _ ⟨rc10, rd10⟩ (fun _ => ?_)
        clear hK K
        try simp only [Act.put, List.setIfInBounds_toArray, List.set_cons_zero, List.set_cons_succ]
        refine wpAnyH_ready (rs := [4]) (by kernel_rfl) (by simp) ?_
        refine AllReadyH.cons (o := ({ dst := some 56, op := Op.call { callee := Callee.value (Operand.func 23), args := #[Operand.tmp 55], argTypes := #[50] }, type := 22, pos := "law.go:137", after := #[{ on := 3, ground := Ground.data }, { on := 1, ground := Ground.chain }], guard := none } : Oper)) rfl (fun K hK => ?_) AllReadyH.nil
        go_simp
        go_at_call 23
        refine (HC2.out _).mono ?_
        rintro e w11 ⟨v11, rfl, hf11, hb11⟩
        obtain ⟨A11, c11, rfl, _, _, _⟩ := id hf11.1
        have hs11 := run_str hf11.1
        have hs12 := run_str (hf10.1.below hb11)
        have rc11 := range_below rc10 hb11
        have rd11 := range_below rd10 hb11
        have hq11 := hq10.trans (hb11.mono hq10.size)
        refine hK.out _ _ ⟨rc11, rd11⟩ (fun _ => ?_)
        clear hK K
        try simp only [Act.put, List.setIfInBounds_toArray, List.set_cons_zero, List.set_cons_succ]
        refine wpAnyH_ready (rs := [5]) (by kernel_rfl) (by simp) ?_
        refine AllReadyH.cons (o := ({ dst := some 57, op := Op.convert 22 9 (Operand.tmp 56), type := 9, pos := "law.go:137", after := #[{ on := 4, ground := Ground.data }], guard := none } : Oper)) rfl (fun K hK => ?_) AllReadyH.nil
        go_simp
        refine hK.out _ _ ⟨rc11, rd11⟩ (fun _ => ?_)
        clear hK K
        try simp only [Act.put, List.setIfInBounds_toArray, List.set_cons_zero, List.set_cons_succ]
        refine wpAnyH_ready (rs := [6]) (by kernel_rfl) (by simp) ?_
        refine AllReadyH.cons (o := ({ dst := some 58, op := Op.binOp BinOp.eql 9 (Operand.tmp 54) (Operand.tmp 57) 9, type := 4, pos := "law.go:137", after := #[{ on := 2, ground := Ground.data }, { on := 5, ground := Ground.data }], guard := none } : Oper)) rfl (fun K hK => ?_) AllReadyH.nil
        go_simp
        refine hK.out _ _ ⟨rc11, rd11⟩ (fun _ => ?_)
        clear hK K
        try simp only [Act.put, List.setIfInBounds_toArray, List.set_cons_zero, List.set_cons_succ]
        refine wpAnyH_ready (rs := [10]) (by kernel_rfl) (by simp) ?_
        refine AllReadyH.cons (o := ({ dst := some 62, op := Op.binOp BinOp.eql 4 (Operand.tmp 58) (Operand.tmp 61) 4, type := 4, pos := "law.go:137", after := #[{ on := 6, ground := Ground.data }, { on := 9, ground := Ground.data }], guard := none } : Oper)) rfl (fun K hK => ?_) AllReadyH.nil
        go_simp
        refine hK.out _ _ ⟨rc11, rd11⟩ (fun _ => ?_)
        clear hK K
        try simp only [Act.put, List.setIfInBounds_toArray, List.set_cons_zero, List.set_cons_succ]
        refine wpAnyH_ready (rs := [11]) (by kernel_rfl) (by simp) ?_
        refine AllReadyH.cons (o := ({ dst := some 8, op := Op.assign (Operand.tmp 62), type := 4, pos := "law.go:137", after := #[{ on := 10, ground := Ground.data }, { on := 4, ground := Ground.chain }, { on := 0, ground := Ground.phase }, { on := 1, ground := Ground.phase }, { on := 2, ground := Ground.phase }, { on := 3, ground := Ground.phase }, { on := 4, ground := Ground.phase }, { on := 5, ground := Ground.phase }, { on := 6, ground := Ground.phase }, { on := 7, ground := Ground.phase }, { on := 8, ground := Ground.phase }, { on := 9, ground := Ground.phase }, { on := 10, ground := Ground.phase }], guard := none } : Oper)) rfl (fun K hK => ?_) AllReadyH.nil
        go_simp
        refine hK.out _ _ ⟨rc11, rd11⟩ (fun _ => ?_)
        clear hK K
        try simp only [Act.put, List.setIfInBounds_toArray, List.set_cons_zero, List.set_cons_succ]
        refine wpAnyH_done (by kernel_rfl) ?_ _
        go_wp2
        go_ret
        refine ⟨?_, hq11⟩
        show Ending.returned (Value.bool _) = _
        rw [HB.out]
        simp
      · go_simp
        go_at_call 23
        refine (HC2.out _).mono ?_
        rintro e w11 ⟨v11, rfl, hf11, hb11⟩
        obtain ⟨A11, c11, rfl, _, _, _⟩ := id hf11.1
        have hs11 := run_str hf11.1
        have hs12 := run_str (hf10.1.below hb11)
        have rc11 := range_below rc10 hb11
        have rd11 := range_below rd10 hb11
        have hq11 := hq10.trans (hb11.mono hq10.size)
        refine hK.out _ _ ⟨rc11, rd11⟩ (fun _ => ?_)
        clear hK K
        try simp only [Act.put, List.setIfInBounds_toArray, List.set_cons_zero, List.set_cons_succ]
        refine wpAnyH_ready (rs := [2, 5]) (by kernel_rfl) (by simp) ?_
        refine AllReadyH.cons (o := ({ dst := some 54, op := Op.convert 22 9 (Operand.tmp 53), type := 9, pos := "law.go:137", after := #[{ on := 1, ground := Ground.data }], guard := none } : Oper)) rfl (fun K hK => ?_) (AllReadyH.cons (o := ({ dst := some 57, op := Op.convert 22 9 (Operand.tmp 56), type := 9, pos := "law.go:137", after := #[{ on := 4, ground := Ground.data }], guard := none } : Oper)) rfl (fun K hK => ?_) AllReadyH.nil)
        · go_simp
          refine hK.out _ _ ⟨rc11, rd11⟩ (fun _ => ?_)
          clear hK K
          try simp only [Act.put, List.setIfInBounds_toArray, List.set_cons_zero, List.set_cons_succ]
          refine wpAnyH_ready (rs := [5]) (by kernel_rfl) (by simp) ?_
          refine AllReadyH.cons (o := ({ dst := some 57, op := Op.convert 22 9 (Operand.tmp 56), type := 9, pos := "law.go:137", after := #[{ on := 4, ground := Ground.data }], guard := none } : Oper)) rfl (fun K hK => ?_) AllReadyH.nil
          go_simp
          refine hK.out _ _ ⟨rc11, rd11⟩ (fun _ => ?_)
          clear hK K
          try simp only [Act.put, List.setIfInBounds_toArray, List.set_cons_zero, List.set_cons_succ]
          refine wpAnyH_ready (rs := [6]) (by kernel_rfl) (by simp) ?_
          refine AllReadyH.cons (o := ({ dst := some 58, op := Op.binOp BinOp.eql 9 (Operand.tmp 54) (Operand.tmp 57) 9, type := 4, pos := "law.go:137", after := #[{ on := 2, ground := Ground.data }, { on := 5, ground := Ground.data }], guard := none } : Oper)) rfl (fun K hK => ?_) AllReadyH.nil
          go_simp
          refine hK.out _ _ ⟨rc11, rd11⟩ (fun _ => ?_)
          clear hK K
          try simp only [Act.put, List.setIfInBounds_toArray, List.set_cons_zero, List.set_cons_succ]
          refine wpAnyH_ready (rs := [10]) (by kernel_rfl) (by simp) ?_
          refine AllReadyH.cons (o := ({ dst := some 62, op := Op.binOp BinOp.eql 4 (Operand.tmp 58) (Operand.tmp 61) 4, type := 4, pos := "law.go:137", after := #[{ on := 6, ground := Ground.data }, { on := 9, ground := Ground.data }], guard := none } : Oper)) rfl (fun K hK => ?_) AllReadyH.nil
          go_simp
          refine hK.out _ _ ⟨rc11, rd11⟩ (fun _ => ?_)
          clear hK K
          try simp only [Act.put, List.setIfInBounds_toArray, List.set_cons_zero, List.set_cons_succ]
          refine wpAnyH_ready (rs := [11]) (by kernel_rfl) (by simp) ?_
          refine AllReadyH.cons (o := ({ dst := some 8, op := Op.assign (Operand.tmp 62), type := 4, pos := "law.go:137", after := #[{ on := 10, ground := Ground.data }, { on := 4, ground := Ground.chain }, { on := 0, ground := Ground.phase }, { on := 1, ground := Ground.phase }, { on := 2, ground := Ground.phase }, { on := 3, ground := Ground.phase }, { on := 4, ground := Ground.phase }, { on := 5, ground := Ground.phase }, { on := 6, ground := Ground.phase }, { on := 7, ground := Ground.phase }, { on := 8, ground := Ground.phase }, { on := 9, ground := Ground.phase }, { on := 10, ground := Ground.phase }], guard := none } : Oper)) rfl (fun K hK => ?_) AllReadyH.nil
          go_simp
          refine hK.out _ _ ⟨rc11, rd11⟩ (fun _ => ?_)
          clear hK K
          try simp only [Act.put, List.setIfInBounds_toArray, List.set_cons_zero, List.set_cons_succ]
          refine wpAnyH_done (by kernel_rfl) ?_ _
          go_wp2
          go_ret
          refine ⟨?_, hq11⟩
          show Ending.returned (Value.bool _) = _
          rw [HB.out]
          simp
        · go_simp
          refine hK.out _ _ ⟨rc11, rd11⟩ (fun _ => ?_)
          clear hK K
          try simp only [Act.put, List.setIfInBounds_toArray, List.set_cons_zero, List.set_cons_succ]
          refine wpAnyH_ready (rs := [2]) (by kernel_rfl) (by simp) ?_
          refine AllReadyH.cons (o := ({ dst := some 54, op := Op.convert 22 9 (Operand.tmp 53), type := 9, pos := "law.go:137", after := #[{ on := 1, ground := Ground.data }], guard := none } : Oper)) rfl (fun K hK => ?_) AllReadyH.nil
          go_simp
          refine hK.out _ _ ⟨rc11, rd11⟩ (fun _ => ?_)
          clear hK K
          try simp only [Act.put, List.setIfInBounds_toArray, List.set_cons_zero, List.set_cons_succ]
          refine wpAnyH_ready (rs := [6]) (by kernel_rfl) (by simp) ?_
          refine AllReadyH.cons (o := ({ dst := some 58, op := Op.binOp BinOp.eql 9 (Operand.tmp 54) (Operand.tmp 57) 9, type := 4, pos := "law.go:137", after := #[{ on := 2, ground := Ground.data }, { on := 5, ground := Ground.data }], guard := none } : Oper)) rfl (fun K hK => ?_) AllReadyH.nil
          go_simp
          refine hK.out _ _ ⟨rc11, rd11⟩ (fun _ => ?_)
          clear hK K
          try simp only [Act.put, List.setIfInBounds_toArray, List.set_cons_zero, List.set_cons_succ]
          refine wpAnyH_ready (rs := [10]) (by kernel_rfl) (by simp) ?_
          refine AllReadyH.cons (o := ({ dst := some 62, op := Op.binOp BinOp.eql 4 (Operand.tmp 58) (Operand.tmp 61) 4, type := 4, pos := "law.go:137", after := #[{ on := 6, ground := Ground.data }, { on := 9, ground := Ground.data }], guard := none } : Oper)) rfl (fun K hK => ?_) AllReadyH.nil
          go_simp
          refine hK.out _ _ ⟨rc11, rd11⟩ (fun _ => ?_)
          clear hK K
          try simp only [Act.put, List.setIfInBounds_toArray, List.set_cons_zero, List.set_cons_succ]
          refine wpAnyH_ready (rs := [11]) (by kernel_rfl) (by simp) ?_
          refine AllReadyH.cons (o := ({ dst := some 8, op := Op.assign (Operand.tmp 62), type := 4, pos := "law.go:137", after := #[{ on := 10, ground := Ground.data }, { on := 4, ground := Ground.chain }, { on := 0, ground := Ground.phase }, { on := 1, ground := Ground.phase }, { on := 2, ground := Ground.phase }, { on := 3, ground := Ground.phase }, { on := 4, ground := Ground.phase }, { on := 5, ground := Ground.phase }, { on := 6, ground := Ground.phase }, { on := 7, ground := Ground.phase }, { on := 8, ground := Ground.phase }, { on := 9, ground := Ground.phase }, { on := 10, ground := Ground.phase }], guard := none } : Oper)) rfl (fun K hK => ?_) AllReadyH.nil
          go_simp
          refine hK.out _ _ ⟨rc11, rd11⟩ (fun _ => ?_)
          clear hK K
          try simp only [Act.put, List.setIfInBounds_toArray, List.set_cons_zero, List.set_cons_succ]
          refine wpAnyH_done (by kernel_rfl) ?_ _
          go_wp2
          go_ret
          refine ⟨?_, hq11⟩
          show Ending.returned (Value.bool _) = _
          rw [HB.out]
          simp
end Go.Proofs.YtljdfhckllncoaaK

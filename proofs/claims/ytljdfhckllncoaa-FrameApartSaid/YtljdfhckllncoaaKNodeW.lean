import Derived.Test.YtljdfhckllncoaaKNodeB
namespace Go.Proofs.YtljdfhckllncoaaK
open Go.RowKit
set_option linter.unusedSimpArgs false
set_option linter.unusedVariables false
set_option maxRecDepth 10000 in
theorem node_speaks (w : World) : Calls Try.prog 20 #[] w fun e w' => e = .returned (.bool true) ∧ Below w.heap.size w w' := by
  have HW := Lib.hid (fun W A n c h hn => write_ok 7 258 A n c [120] W (by decide) (by decide) hn h)
  have hB := Bs.new (w := w) (bs := [120]) (cs := #[.int .u8 120]) (n := 1) (b := w.heap.size) (T := 5) (fz := (1, 2)) rfl rfl rfl (by decide)
  have hb0 := (Below.refl w.heap.size w).alloc (Nat.le_refl _) (.cells #[.int .u8 120] 5 (1, 2))
  have hcv := Lib.run_convert_bytes_const (P := Try.prog) w 22 5 #[.int .u8 120] 1 1 Try.underlying22 Try.underlying5
  go_enter Try.func20, Try.ntmps20
  go_wp2_with (go_at_call 21; refine (HW.out _ _ _ _ hB (by decide)).mono ?_; rintro e w2 ⟨v, rfl, hf, hb2⟩; have hb3 := hb0.trans (hb2.mono hb0.size); obtain ⟨A6, c6, rfl, _, _, _⟩ := id hf.1; have hs := run_str hf.1)
  go_ret
  exact ⟨by rfl, hb3⟩
set_option maxRecDepth 10000 in
set_option maxHeartbeats 4000000 in
theorem nodeWrites_walk (k ep : Int) (A : Option Addr) (n c : Nat) (bs : List UInt8) (w : World) (hX : Bs w (.slice A n c) bs) (hep : 0 ≤ ep ∧ ep < 18446744073709551616) :
    Calls Try.prog 10 #[.agg #[.int .i64 k, .int .u64 ep, .slice A n c]] w fun e w' => e = .returned (.bool true) ∧ Below w.heap.size w w' := by
  obtain ⟨W, hW⟩ : ∃ W, W = w.alloc (.cells #[.int .i64 k, .int .u64 ep, .slice A n c] 45) := ⟨_, rfl⟩
  obtain ⟨xb, hxb⟩ : ∃ xb, xb = w.heap.size := ⟨_, rfl⟩
  have hb0 : Below w.heap.size w W := by rw [hW]; exact (Below.refl _ _).alloc (Nat.le_refl _) _
  have hrow : W.heap[xb]? = some (.cells #[.int .i64 k, .int .u64 ep, .slice A n c] 45 (0, 0)) := by rw [hW, hxb]; exact heap_alloc_new w _
  by_cases h500 : 500 < n
  · clear hX
    have hsp := Lib.hid (node_speaks W)
    have x2 : W.cell? ⟨xb, 2, none⟩ = some (.slice A n c) := cell_of_row _ _ 2 _ _ _ hrow
    go_enter Try.func10, Try.ntmps10
    go_wp2_with fail
    rw [← hW, ← hxb]
    clear hW hxb
    go_wp2_with (go_at_call 20; refine hsp.out.mono ?_; rintro e w1 ⟨rfl, hb1⟩; have x2' := cell_later hb1 x2; have hb2 := hb0.trans (hb1.mono hb0.size))
    go_ret
    exact ⟨rfl, hb2⟩
  have hX0 := hX.below hb0
  have HLn := Lib.hid hX.cells
  have HN := Lib.hid hX.len
  have hsp := Lib.hid (node_speaks W)
  go_enter Try.func10, Try.ntmps10
  go_wp2_with fail
  rw [← hW, ← hxb]
  have x0 : W.cell? ⟨xb, 0, none⟩ = some (.int .i64 k) := cell_of_row _ _ 0 _ _ _ hrow
  have x1 : W.cell? ⟨xb, 1, none⟩ = some (.int .u64 ep) := cell_of_row _ _ 1 _ _ _ hrow
  have x2 : W.cell? ⟨xb, 2, none⟩ = some (.slice A n c) := cell_of_row _ _ 2 _ _ _ hrow
  have HRW := Lib.hid hrow
  clear hW hxb hrow
  go_wp2_with (go_at_call 20; refine hsp.out.mono ?_; rintro e w1 ⟨rfl, hb1⟩; have y0 := cell_later hb1 x0; have y1 := cell_later hb1 x1; have y2 := cell_later hb1 x2)
  have hq1 := hb1.size
  have hB1 := (hb1.alloc hb1.size (.cells #[] 5)).drew
  have hat1 := World.ownsRow.drew (own_empty (w := w1) (b := w1.heap.size) (base := W.heap.size) (e := 5) (size := 1) rfl hb1.size)
  have hB2 := ((hb1.alloc hb1.size (.cells #[] 5)).alloc (by simp; omega) (.cells #[.int .i64 0, .int .u64 0, .slice none 0 0] 45)).drew
  have hat2 := World.ownsRow.drew ((own_empty (w := w1) (b := w1.heap.size) (base := W.heap.size) (e := 5) (size := 1) rfl hb1.size).alloc (.cells #[.int .i64 0, .int .u64 0, .slice none 0 0] 45))
  have hi2 : (((w1.alloc (.cells #[] 5)).alloc (.cells #[.int .i64 0, .int .u64 0, .slice none 0 0] 45)).drew).heap[w1.heap.size + 1]? = some (.cells #[.int .i64 0, .int .u64 0, .slice none 0 0] 45) := by
    have := heap_alloc_new (w1.alloc (.cells #[] 5)) (.cells #[.int .i64 0, .int .u64 0, .slice none 0 0] 45)
    rw [show (w1.alloc (.cells #[] 5)).heap.size = w1.heap.size + 1 from by simp] at this
    exact this
  have hB6 := (hb1.alloc hb1.size (.cells #[.int .i64 0, .int .u64 0, .slice none 0 0] 45)).drew
  have hB5 := ((hb1.alloc hb1.size (.cells #[.int .i64 0, .int .u64 0, .slice none 0 0] 45)).alloc (by simp; omega) (.cells #[] 5)).drew
  have hat5 := World.ownsRow.drew (own_empty (w := w1.alloc (.cells #[.int .i64 0, .int .u64 0, .slice none 0 0] 45)) (b := w1.heap.size + 1) (base := W.heap.size) (e := 5) (size := 1) (by simp) (by simp; omega))
  have hi5 : (((w1.alloc (.cells #[.int .i64 0, .int .u64 0, .slice none 0 0] 45)).alloc (.cells #[] 5)).drew).heap[w1.heap.size]? = some (.cells #[.int .i64 0, .int .u64 0, .slice none 0 0] 45) :=
    (((Below.refl _ (w1.alloc (.cells #[.int .i64 0, .int .u64 0, .slice none 0 0] 45))).alloc (Nat.le_refl _) (.cells #[] 5)).block w1.heap.size (by simp)).trans (heap_alloc_new w1 (.cells #[.int .i64 0, .int .u64 0, .slice none 0 0] 45))
  go_region_held3 (fun w' => w'.cell? ⟨xb, 0, none⟩ = some (.int .i64 k) ∧ w'.cell? ⟨xb, 1, none⟩ = some (.int .u64 ep) ∧ w'.cell? ⟨xb, 2, none⟩ = some (.slice A n c)) (first | assumption | exact ⟨y0, y1, y2⟩ | exact ⟨cell_later hB1 x0, cell_later hB1 x1, cell_later hB1 x2⟩ | exact ⟨cell_later hB6 x0, cell_later hB6 x1, cell_later hB6 x2⟩ | exact ⟨cell_later hB2 x0, cell_later hB2 x1, cell_later hB2 x2⟩ | exact ⟨cell_later hB5 x0, cell_later hB5 x1, cell_later hB5 x2⟩ | exact ⟨cell_later hB3 x0, cell_later hB3 x1, cell_later hB3 x2⟩ | exact ⟨cell_later (hB3.alloc hB3.size (.cells #[.int .i64 0, .int .u64 0, .slice none 0 0] 45)) x0, cell_later (hB3.alloc hB3.size (.cells #[.int .i64 0, .int .u64 0, .slice none 0 0] 45)) x1, cell_later (hB3.alloc hB3.size (.cells #[.int .i64 0, .int .u64 0, .slice none 0 0] 45)) x2⟩ | exact ⟨cell_later (node_below3 hB3 hgib _ _ _) x0, cell_later (node_below3 hB3 hgib _ _ _) x1, cell_later (node_below3 hB3 hgib _ _ _) x2⟩ | exact ⟨cell_later (hB3.alloc hB3.size _) x0, cell_later (hB3.alloc hB3.size _) x1, cell_later (hB3.alloc hB3.size _) x2⟩)
    ((first
      | (refine step_append W.heap.size rfl _ _ 22 5 (.int .u8 0) 1 1 rfl Try.underlying22 info_u8 rfl (by decide) (by decide) (.slice (some ⟨w1.heap.size, 0, none⟩) 0 0) 0 [] A n c (bs.map encB) (by simp [Act.eval, Act.put]) (by simp [Act.eval, Act.put]) hat1 (hX0.below hB1).at HLn.out (encB_all _) hB1.size (by omega) ?_; intro v3 w3 ho3 hg3 ha3; have hB3 := below_grown hB1 hat1 hg3 hB1.size; obtain ⟨A7, c7, rfl, _, _⟩ := own_form ho3)
      | (refine step_append W.heap.size rfl _ _ 22 5 (.int .u8 0) 1 1 rfl Try.underlying22 info_u8 rfl (by decide) (by decide) (.slice (some ⟨w1.heap.size, 0, none⟩) 0 0) 0 [] A n c (bs.map encB) (by simp [Act.eval, Act.put]) (by simp [Act.eval, Act.put]) hat2 (hX0.below hB2).at HLn.out (encB_all _) hB2.size (by omega) ?_; intro v3 w3 ho3 hg3 ha3; have hB3 := below_grown hB2 hat2 hg3 hB2.size; obtain ⟨A7, c7, rfl, _, _⟩ := own_form ho3; have hi3 := (hg3.block (w1.heap.size + 1) (by simp) (by show some _ ≠ some _; simp)).trans hi2; have t0 := cell_of_row _ _ 0 _ _ _ hi3; have t1 := cell_of_row _ _ 1 _ _ _ hi3; have t2 := cell_of_row _ _ 2 _ _ _ hi3; have z0 := frozen_of hi3 0; have z1 := frozen_of hi3 1; have z2 := frozen_of hi3 2; have hgib : W.heap.size ≤ w1.heap.size + 1 := (by omega))
      | (refine step_append W.heap.size rfl _ _ 22 5 (.int .u8 0) 1 1 rfl Try.underlying22 info_u8 rfl (by decide) (by decide) (.slice (some ⟨w1.heap.size + 1, 0, none⟩) 0 0) 0 [] A n c (bs.map encB) (by simp [Act.eval, Act.put]) (by simp [Act.eval, Act.put]) hat5 (hX0.below hB5).at HLn.out (encB_all _) hB5.size (by omega) ?_; intro v3 w3 ho3 hg3 ha3; have hB3 := below_grown hB5 hat5 hg3 hB5.size; obtain ⟨A7, c7, rfl, _, _⟩ := own_form ho3; have hi3 := (hg3.block w1.heap.size (by simp; omega) (by show some _ ≠ some _; simp)).trans hi5; have t0 := cell_of_row _ _ 0 _ _ _ hi3; have t1 := cell_of_row _ _ 1 _ _ _ hi3; have t2 := cell_of_row _ _ 2 _ _ _ hi3; have z0 := frozen_of hi3 0; have z1 := frozen_of hi3 1; have z2 := frozen_of hi3 2; have hgib : W.heap.size ≤ w1.heap.size := (by omega))))
  · obtain ⟨Wf, hWf⟩ : ∃ Wf, Wf = w3.alloc (.cells #[.int .i64 k, .int .u64 ep, .slice A7 n c7] 45) := ⟨_, rfl⟩
    obtain ⟨ib, hib⟩ : ∃ ib, ib = w3.heap.size := ⟨_, rfl⟩
    rw [Nat.zero_add, List.nil_append] at ho3
    have hBf : Below W.heap.size W Wf := by rw [hWf]; exact hB3.alloc hB3.size _
    have HI : Hid (Wf.heap[ib]? = some (.cells #[.int .i64 k, .int .u64 ep, .slice A7 n c7] 45 (0, 0))) := Lib.hid (by rw [hWf, hib]; exact heap_alloc_new w3 _)
    have hIb : Bs Wf (.slice A7 n c7) bs := by rw [hWf]; exact (own_bs ho3).2.alloc _
    rw [← hWf, ← hib]
    clear hWf hib hB3 ho3 hg3 ha3
    have hI := HI.out
    have hXf := hX0.below hBf
    have hxf := box_below HRW.out hBf
    have HB0 := Lib.hid hb0
    clear hB1 hB2 hB5 hB6 hat1 hat2 hat5 hi2 hi5 hX hX0 x0 x1 x2 y0 y1 y2 hb1 hq1 hb0 HRW
    obtain ⟨p0, p1, p2⟩ := box_cells hI
    obtain ⟨q0, q1, q2⟩ := box_cells hxf
    by_cases hgood : 0 ≤ k ∧ k < 256 ∧ n ≤ 224
    · obtain ⟨hg0, hg1, hg2⟩ := hgood
      obtain ⟨K, rfl⟩ : ∃ K : Nat, k = (K : Int) := ⟨k.toNat, by omega⟩
      obtain ⟨P, rfl⟩ : ∃ P : Nat, ep = (P : Int) := ⟨ep.toNat, by omega⟩
      have hK8 : K < 256 := by omega
      have hP64 : P < 18446744073709551616 := by omega
      have HW := Lib.hid (fun W h => write_ok K P A7 n c7 bs W hK8 hP64 hg2 h)
      have HR := Lib.hid (fun W h => rwrite_ok K P A n c bs W hK8 hP64 hg2 h)
      have HS := Lib.hid (fun W h1 h2 => same_any (K : Int) (P : Int) (K : Int) (P : Int) A7 n c7 bs A n c bs W h1 h2)
      rw [decide_eq_true (p := (K : Int) = K ∧ (P : Int) = P ∧ bs = bs) ⟨rfl, rfl, rfl⟩] at HS
      have HS2 := Lib.hid (fun W A2 n2 c2 h1 h2 => same_any (K : Int) (P : Int) (K : Int) (P : Int) A2 n2 c2 bs A n c bs W h1 h2)
      rw [decide_eq_true (p := (K : Int) = K ∧ (P : Int) = P ∧ bs = bs) ⟨rfl, rfl, rfl⟩] at HS2
      obtain ⟨BB, hBB⟩ : ∃ BB, BB = nodeB K P bs := ⟨_, rfl⟩
      have hBl : BB.length = 9 + n := by rw [hBB, nodeB_length, ← HN.out]
      have HD := Lib.hid (fun W A2 n2 c2 h h9 hn => read_ok A2 n2 c2 BB W h h9 hn)
      have hk := nodeK_B K P bs hK8
      have he := nodeE_B K P bs hP64
      have hd := nodeD_B K P bs
      rw [← hBB] at hk he hd HW HR
      rw [hk, he, hd] at HD
      have HBl := Lib.hid hBl
      clear hk he hd hBB hBl
      have tok : True := trivial
      go_wp2_with (first
        | (go_at_call 21; refine (HW.out _ (by exact hIb)).mono ?_; rintro e w4 ⟨v4, rfl, hf4, hb4⟩; obtain ⟨A4, c4, rfl, _, _, _⟩ := id hf4.1; have hB4 := hBf.trans (hb4.mono hBf.size); have hI4 := box_below hI hb4; have hx4 := box_below hxf hb4; obtain ⟨p0, p1, p2⟩ := box_cells hI4; obtain ⟨q0, q1, q2⟩ := box_cells hx4; have hf4 := hf4.1; have hX4 := hXf.below hb4; have hIb4 := hIb.below hb4)
        | (go_at_call 30; refine (HR.out _ (by exact hX4)).mono ?_; rintro e w5 ⟨v5, rfl, hf5, hb5⟩; obtain ⟨A5, c5, rfl, _, _, _⟩ := id hf5; have hB5 := hB4.trans (hb5.mono hB4.size); have hI5 := box_below hI4 hb5; have hx5 := box_below hx4 hb5; obtain ⟨p0, p1, p2⟩ := box_cells hI5; obtain ⟨q0, q1, q2⟩ := box_cells hx5; have hX5 := hX4.below hb5; have hIb5 := hIb4.below hb5; have hf4' := hf4.below hb5; have hs4 := run_str hf4'; have hs5 := run_str hf5)
        | (go_at_call 22; have _t := tok; refine (HS.out _ (by exact hIb5) (by exact hX5)).mono ?_; rintro e w6 ⟨rfl, hb6⟩; have hB6 := hB5.trans (hb6.mono hB5.size); have hx6 := box_below hx5 hb6; obtain ⟨q0, q1, q2⟩ := box_cells hx6; have hX6 := hX5.below hb6; have hf6 := hf4'.below hb6; clear tok _t)
        | (go_at_call 31; rw [HBl.out] at hf6 ⊢; refine (HD.out _ _ _ _ (by exact hf6) (by omega) (by omega)).mono ?_; rintro e w7 ⟨v7, m7, rfl, ho7, hb7⟩; obtain ⟨A8, c8, rfl, _, _⟩ := own_form ho7; have hB7 := hB6.trans (hb7.mono hB6.size); have hB8 := hB7.alloc hB7.size (.cells #[.int .i64 (K : Int), .int .u64 (P : Int), .slice A8 m7 c8] 45); have hx7 := box_below (box_below hx6 hb7) ((Below.refl _ _).alloc (Nat.le_refl _) (.cells #[.int .i64 (K : Int), .int .u64 (P : Int), .slice A8 m7 c8] 45)); obtain ⟨q0, q1, q2⟩ := box_cells hx7; have hX7 := (hX6.below hb7).alloc (.cells #[.int .i64 (K : Int), .int .u64 (P : Int), .slice A8 m7 c8] 45); have hX8 := (own_bs ho7).2.alloc (.cells #[.int .i64 (K : Int), .int .u64 (P : Int), .slice A8 m7 c8] 45))
        | (go_at_call 22; refine (HS2.out _ _ _ _ (by exact hX8) (by exact hX7)).mono ?_; rintro e w9 ⟨rfl, hb9⟩; have hB9 := hB8.trans (hb9.mono hB8.size)))
      go_ret
      exact ⟨rfl, HB0.out.trans (hB9.mono HB0.out.size)⟩
    · have hbad : k < 0 ∨ 256 ≤ k ∨ 224 < n := by omega
      clear hgood
      have HW := Lib.hid (fun W => write_neg k ep A7 n c7 W hbad)
      have HR := Lib.hid (fun W => rwrite_neg k ep A n c W hbad)
      have HS := Lib.hid (fun W h1 h2 => same_any k ep k ep A7 n c7 bs A n c bs W h1 h2)
      rw [decide_eq_true (p := k = k ∧ ep = ep ∧ bs = bs) ⟨rfl, rfl, rfl⟩] at HS
      clear hbad
      go_wp2_with (first
        | (go_at_call 21; refine (HW.out _).mono ?_; rintro e w4 ⟨rfl, hb4⟩; have hB4 := hBf.trans (hb4.mono hBf.size); have hI4 := box_below hI hb4; have hx4 := box_below hxf hb4; obtain ⟨p0, p1, p2⟩ := box_cells hI4; obtain ⟨q0, q1, q2⟩ := box_cells hx4; have hX4 := hXf.below hb4; have hIb4 := hIb.below hb4)
        | (go_at_call 30; refine (HR.out _).mono ?_; rintro e w5 ⟨v5, rfl, hf5, hb5⟩; obtain ⟨A5, c5, rfl, _, _, _⟩ := id hf5; have hB5 := hB4.trans (hb5.mono hB4.size); have hI5 := box_below hI4 hb5; have hx5 := box_below hx4 hb5; obtain ⟨p0, p1, p2⟩ := box_cells hI5; obtain ⟨q0, q1, q2⟩ := box_cells hx5; have hX5 := hX4.below hb5; have hIb5 := hIb4.below hb5; have hs4 := run_str (w := w5) (A := none) (n := 0) (c := 0) (bs := []) ⟨none, 0, rfl, Nat.le_refl _, by simp, At.nil _ _⟩; have hs5 := run_str (A := A5) (n := 0) (c := c5) (bs := []) hf5)
        | (go_at_call 22; refine (HS.out _ (by exact hIb5) (by exact hX5)).mono ?_; rintro e w6 ⟨rfl, hb6⟩; have hB6 := hB5.trans (hb6.mono hB5.size)))
      go_ret
      exact ⟨rfl, HB0.out.trans (hB6.mono HB0.out.size)⟩
  · obtain ⟨Wf, hWf⟩ : ∃ Wf, Wf = ((w3.setCell ⟨w1.heap.size + 1, 0, none⟩ (.int .i64 k)).setCell ⟨w1.heap.size + 1, 1, none⟩ (.int .u64 ep)).setCell ⟨w1.heap.size + 1, 2, none⟩ (.slice A7 n c7) := ⟨_, rfl⟩
    have hne : (Value.slice A7 (0 + n) c7).ownBlock ≠ some (w1.heap.size + 1) := by
      rcases ha3 with e | e
      · rw [e]; show some _ ≠ some _; simp
      · rw [e]; simp; try omega
    obtain ⟨ib, hib⟩ : ∃ ib, ib = w1.heap.size + 1 := ⟨_, rfl⟩
    rw [Nat.zero_add, List.nil_append] at ho3
    rw [Nat.zero_add] at hne
    rw [← hib] at hi3 hgib hWf hne
    have hBf : Below W.heap.size W Wf := by rw [hWf]; exact node_below3 hB3 hgib _ _ _
    have HI : Hid (Wf.heap[ib]? = some (.cells #[.int .i64 k, .int .u64 ep, .slice A7 n c7] 45 (0, 0))) := Lib.hid (by rw [hWf]; exact node_row3 hi3 _ _ _)
    have hIb : Bs Wf (.slice A7 n c7) bs := by rw [hWf]; exact (own_bs (own_set3' ho3 hne _ _ _)).2
    simp only [← hib]
    rw [← hWf]
    clear hWf hib hB3 ho3 hg3 ha3 hne hgib hi3 t0 t1 t2 z0 z1 z2
    have hI := HI.out
    have hXf := hX0.below hBf
    have hxf := box_below HRW.out hBf
    have HB0 := Lib.hid hb0
    clear hB1 hB2 hB5 hB6 hat1 hat2 hat5 hi2 hi5 hX hX0 x0 x1 x2 y0 y1 y2 hb1 hq1 hb0 HRW
    obtain ⟨p0, p1, p2⟩ := box_cells hI
    obtain ⟨q0, q1, q2⟩ := box_cells hxf
    by_cases hgood : 0 ≤ k ∧ k < 256 ∧ n ≤ 224
    · obtain ⟨hg0, hg1, hg2⟩ := hgood
      obtain ⟨K, rfl⟩ : ∃ K : Nat, k = (K : Int) := ⟨k.toNat, by omega⟩
      obtain ⟨P, rfl⟩ : ∃ P : Nat, ep = (P : Int) := ⟨ep.toNat, by omega⟩
      have hK8 : K < 256 := by omega
      have hP64 : P < 18446744073709551616 := by omega
      have HW := Lib.hid (fun W h => write_ok K P A7 n c7 bs W hK8 hP64 hg2 h)
      have HR := Lib.hid (fun W h => rwrite_ok K P A n c bs W hK8 hP64 hg2 h)
      have HS := Lib.hid (fun W h1 h2 => same_any (K : Int) (P : Int) (K : Int) (P : Int) A7 n c7 bs A n c bs W h1 h2)
      rw [decide_eq_true (p := (K : Int) = K ∧ (P : Int) = P ∧ bs = bs) ⟨rfl, rfl, rfl⟩] at HS
      have HS2 := Lib.hid (fun W A2 n2 c2 h1 h2 => same_any (K : Int) (P : Int) (K : Int) (P : Int) A2 n2 c2 bs A n c bs W h1 h2)
      rw [decide_eq_true (p := (K : Int) = K ∧ (P : Int) = P ∧ bs = bs) ⟨rfl, rfl, rfl⟩] at HS2
      obtain ⟨BB, hBB⟩ : ∃ BB, BB = nodeB K P bs := ⟨_, rfl⟩
      have hBl : BB.length = 9 + n := by rw [hBB, nodeB_length, ← HN.out]
      have HD := Lib.hid (fun W A2 n2 c2 h h9 hn => read_ok A2 n2 c2 BB W h h9 hn)
      have hk := nodeK_B K P bs hK8
      have he := nodeE_B K P bs hP64
      have hd := nodeD_B K P bs
      rw [← hBB] at hk he hd HW HR
      rw [hk, he, hd] at HD
      have HBl := Lib.hid hBl
      clear hk he hd hBB hBl
      have tok : True := trivial
      go_wp2_with (first
        | (go_at_call 21; refine (HW.out _ (by exact hIb)).mono ?_; rintro e w4 ⟨v4, rfl, hf4, hb4⟩; obtain ⟨A4, c4, rfl, _, _, _⟩ := id hf4.1; have hB4 := hBf.trans (hb4.mono hBf.size); have hI4 := box_below hI hb4; have hx4 := box_below hxf hb4; obtain ⟨p0, p1, p2⟩ := box_cells hI4; obtain ⟨q0, q1, q2⟩ := box_cells hx4; have hf4 := hf4.1; have hX4 := hXf.below hb4; have hIb4 := hIb.below hb4)
        | (go_at_call 30; refine (HR.out _ (by exact hX4)).mono ?_; rintro e w5 ⟨v5, rfl, hf5, hb5⟩; obtain ⟨A5, c5, rfl, _, _, _⟩ := id hf5; have hB5 := hB4.trans (hb5.mono hB4.size); have hI5 := box_below hI4 hb5; have hx5 := box_below hx4 hb5; obtain ⟨p0, p1, p2⟩ := box_cells hI5; obtain ⟨q0, q1, q2⟩ := box_cells hx5; have hX5 := hX4.below hb5; have hIb5 := hIb4.below hb5; have hf4' := hf4.below hb5; have hs4 := run_str hf4'; have hs5 := run_str hf5)
        | (go_at_call 22; have _t := tok; refine (HS.out _ (by exact hIb5) (by exact hX5)).mono ?_; rintro e w6 ⟨rfl, hb6⟩; have hB6 := hB5.trans (hb6.mono hB5.size); have hx6 := box_below hx5 hb6; obtain ⟨q0, q1, q2⟩ := box_cells hx6; have hX6 := hX5.below hb6; have hf6 := hf4'.below hb6; clear tok _t)
        | (go_at_call 31; rw [HBl.out] at hf6 ⊢; refine (HD.out _ _ _ _ (by exact hf6) (by omega) (by omega)).mono ?_; rintro e w7 ⟨v7, m7, rfl, ho7, hb7⟩; obtain ⟨A8, c8, rfl, _, _⟩ := own_form ho7; have hB7 := hB6.trans (hb7.mono hB6.size); have hB8 := hB7.alloc hB7.size (.cells #[.int .i64 (K : Int), .int .u64 (P : Int), .slice A8 m7 c8] 45); have hx7 := box_below (box_below hx6 hb7) ((Below.refl _ _).alloc (Nat.le_refl _) (.cells #[.int .i64 (K : Int), .int .u64 (P : Int), .slice A8 m7 c8] 45)); obtain ⟨q0, q1, q2⟩ := box_cells hx7; have hX7 := (hX6.below hb7).alloc (.cells #[.int .i64 (K : Int), .int .u64 (P : Int), .slice A8 m7 c8] 45); have hX8 := (own_bs ho7).2.alloc (.cells #[.int .i64 (K : Int), .int .u64 (P : Int), .slice A8 m7 c8] 45))
        | (go_at_call 22; refine (HS2.out _ _ _ _ (by exact hX8) (by exact hX7)).mono ?_; rintro e w9 ⟨rfl, hb9⟩; have hB9 := hB8.trans (hb9.mono hB8.size)))
      go_ret
      exact ⟨rfl, HB0.out.trans (hB9.mono HB0.out.size)⟩
    · have hbad : k < 0 ∨ 256 ≤ k ∨ 224 < n := by omega
      clear hgood
      have HW := Lib.hid (fun W => write_neg k ep A7 n c7 W hbad)
      have HR := Lib.hid (fun W => rwrite_neg k ep A n c W hbad)
      have HS := Lib.hid (fun W h1 h2 => same_any k ep k ep A7 n c7 bs A n c bs W h1 h2)
      rw [decide_eq_true (p := k = k ∧ ep = ep ∧ bs = bs) ⟨rfl, rfl, rfl⟩] at HS
      clear hbad
      go_wp2_with (first
        | (go_at_call 21; refine (HW.out _).mono ?_; rintro e w4 ⟨rfl, hb4⟩; have hB4 := hBf.trans (hb4.mono hBf.size); have hI4 := box_below hI hb4; have hx4 := box_below hxf hb4; obtain ⟨p0, p1, p2⟩ := box_cells hI4; obtain ⟨q0, q1, q2⟩ := box_cells hx4; have hX4 := hXf.below hb4; have hIb4 := hIb.below hb4)
        | (go_at_call 30; refine (HR.out _).mono ?_; rintro e w5 ⟨v5, rfl, hf5, hb5⟩; obtain ⟨A5, c5, rfl, _, _, _⟩ := id hf5; have hB5 := hB4.trans (hb5.mono hB4.size); have hI5 := box_below hI4 hb5; have hx5 := box_below hx4 hb5; obtain ⟨p0, p1, p2⟩ := box_cells hI5; obtain ⟨q0, q1, q2⟩ := box_cells hx5; have hX5 := hX4.below hb5; have hIb5 := hIb4.below hb5; have hs4 := run_str (w := w5) (A := none) (n := 0) (c := 0) (bs := []) ⟨none, 0, rfl, Nat.le_refl _, by simp, At.nil _ _⟩; have hs5 := run_str (A := A5) (n := 0) (c := c5) (bs := []) hf5)
        | (go_at_call 22; refine (HS.out _ (by exact hIb5) (by exact hX5)).mono ?_; rintro e w6 ⟨rfl, hb6⟩; have hB6 := hB5.trans (hb6.mono hB5.size)))
      go_ret
      exact ⟨rfl, HB0.out.trans (hB6.mono HB0.out.size)⟩
  · obtain ⟨Wf, hWf⟩ : ∃ Wf, Wf = ((w3.setCell ⟨w1.heap.size, 0, none⟩ (.int .i64 k)).setCell ⟨w1.heap.size, 1, none⟩ (.int .u64 ep)).setCell ⟨w1.heap.size, 2, none⟩ (.slice A7 n c7) := ⟨_, rfl⟩
    have hne : (Value.slice A7 (0 + n) c7).ownBlock ≠ some (w1.heap.size) := by
      rcases ha3 with e | e
      · rw [e]; show some _ ≠ some _; simp
      · rw [e]; simp; try omega
    obtain ⟨ib, hib⟩ : ∃ ib, ib = w1.heap.size := ⟨_, rfl⟩
    rw [Nat.zero_add, List.nil_append] at ho3
    rw [Nat.zero_add] at hne
    rw [← hib] at hi3 hgib hWf hne
    have hBf : Below W.heap.size W Wf := by rw [hWf]; exact node_below3 hB3 hgib _ _ _
    have HI : Hid (Wf.heap[ib]? = some (.cells #[.int .i64 k, .int .u64 ep, .slice A7 n c7] 45 (0, 0))) := Lib.hid (by rw [hWf]; exact node_row3 hi3 _ _ _)
    have hIb : Bs Wf (.slice A7 n c7) bs := by rw [hWf]; exact (own_bs (own_set3' ho3 hne _ _ _)).2
    simp only [← hib]
    rw [← hWf]
    clear hWf hib hB3 ho3 hg3 ha3 hne hgib hi3 t0 t1 t2 z0 z1 z2
    have hI := HI.out
    have hXf := hX0.below hBf
    have hxf := box_below HRW.out hBf
    have HB0 := Lib.hid hb0
    clear hB1 hB2 hB5 hB6 hat1 hat2 hat5 hi2 hi5 hX hX0 x0 x1 x2 y0 y1 y2 hb1 hq1 hb0 HRW
    obtain ⟨p0, p1, p2⟩ := box_cells hI
    obtain ⟨q0, q1, q2⟩ := box_cells hxf
    by_cases hgood : 0 ≤ k ∧ k < 256 ∧ n ≤ 224
    · obtain ⟨hg0, hg1, hg2⟩ := hgood
      obtain ⟨K, rfl⟩ : ∃ K : Nat, k = (K : Int) := ⟨k.toNat, by omega⟩
      obtain ⟨P, rfl⟩ : ∃ P : Nat, ep = (P : Int) := ⟨ep.toNat, by omega⟩
      have hK8 : K < 256 := by omega
      have hP64 : P < 18446744073709551616 := by omega
      have HW := Lib.hid (fun W h => write_ok K P A7 n c7 bs W hK8 hP64 hg2 h)
      have HR := Lib.hid (fun W h => rwrite_ok K P A n c bs W hK8 hP64 hg2 h)
      have HS := Lib.hid (fun W h1 h2 => same_any (K : Int) (P : Int) (K : Int) (P : Int) A7 n c7 bs A n c bs W h1 h2)
      rw [decide_eq_true (p := (K : Int) = K ∧ (P : Int) = P ∧ bs = bs) ⟨rfl, rfl, rfl⟩] at HS
      have HS2 := Lib.hid (fun W A2 n2 c2 h1 h2 => same_any (K : Int) (P : Int) (K : Int) (P : Int) A2 n2 c2 bs A n c bs W h1 h2)
      rw [decide_eq_true (p := (K : Int) = K ∧ (P : Int) = P ∧ bs = bs) ⟨rfl, rfl, rfl⟩] at HS2
      obtain ⟨BB, hBB⟩ : ∃ BB, BB = nodeB K P bs := ⟨_, rfl⟩
      have hBl : BB.length = 9 + n := by rw [hBB, nodeB_length, ← HN.out]
      have HD := Lib.hid (fun W A2 n2 c2 h h9 hn => read_ok A2 n2 c2 BB W h h9 hn)
      have hk := nodeK_B K P bs hK8
      have he := nodeE_B K P bs hP64
      have hd := nodeD_B K P bs
      rw [← hBB] at hk he hd HW HR
      rw [hk, he, hd] at HD
      have HBl := Lib.hid hBl
      clear hk he hd hBB hBl
      have tok : True := trivial
      go_wp2_with (first
        | (go_at_call 21; refine (HW.out _ (by exact hIb)).mono ?_; rintro e w4 ⟨v4, rfl, hf4, hb4⟩; obtain ⟨A4, c4, rfl, _, _, _⟩ := id hf4.1; have hB4 := hBf.trans (hb4.mono hBf.size); have hI4 := box_below hI hb4; have hx4 := box_below hxf hb4; obtain ⟨p0, p1, p2⟩ := box_cells hI4; obtain ⟨q0, q1, q2⟩ := box_cells hx4; have hf4 := hf4.1; have hX4 := hXf.below hb4; have hIb4 := hIb.below hb4)
        | (go_at_call 30; refine (HR.out _ (by exact hX4)).mono ?_; rintro e w5 ⟨v5, rfl, hf5, hb5⟩; obtain ⟨A5, c5, rfl, _, _, _⟩ := id hf5; have hB5 := hB4.trans (hb5.mono hB4.size); have hI5 := box_below hI4 hb5; have hx5 := box_below hx4 hb5; obtain ⟨p0, p1, p2⟩ := box_cells hI5; obtain ⟨q0, q1, q2⟩ := box_cells hx5; have hX5 := hX4.below hb5; have hIb5 := hIb4.below hb5; have hf4' := hf4.below hb5; have hs4 := run_str hf4'; have hs5 := run_str hf5)
        | (go_at_call 22; have _t := tok; refine (HS.out _ (by exact hIb5) (by exact hX5)).mono ?_; rintro e w6 ⟨rfl, hb6⟩; have hB6 := hB5.trans (hb6.mono hB5.size); have hx6 := box_below hx5 hb6; obtain ⟨q0, q1, q2⟩ := box_cells hx6; have hX6 := hX5.below hb6; have hf6 := hf4'.below hb6; clear tok _t)
        | (go_at_call 31; rw [HBl.out] at hf6 ⊢; refine (HD.out _ _ _ _ (by exact hf6) (by omega) (by omega)).mono ?_; rintro e w7 ⟨v7, m7, rfl, ho7, hb7⟩; obtain ⟨A8, c8, rfl, _, _⟩ := own_form ho7; have hB7 := hB6.trans (hb7.mono hB6.size); have hB8 := hB7.alloc hB7.size (.cells #[.int .i64 (K : Int), .int .u64 (P : Int), .slice A8 m7 c8] 45); have hx7 := box_below (box_below hx6 hb7) ((Below.refl _ _).alloc (Nat.le_refl _) (.cells #[.int .i64 (K : Int), .int .u64 (P : Int), .slice A8 m7 c8] 45)); obtain ⟨q0, q1, q2⟩ := box_cells hx7; have hX7 := (hX6.below hb7).alloc (.cells #[.int .i64 (K : Int), .int .u64 (P : Int), .slice A8 m7 c8] 45); have hX8 := (own_bs ho7).2.alloc (.cells #[.int .i64 (K : Int), .int .u64 (P : Int), .slice A8 m7 c8] 45))
        | (go_at_call 22; refine (HS2.out _ _ _ _ (by exact hX8) (by exact hX7)).mono ?_; rintro e w9 ⟨rfl, hb9⟩; have hB9 := hB8.trans (hb9.mono hB8.size)))
      go_ret
      exact ⟨rfl, HB0.out.trans (hB9.mono HB0.out.size)⟩
    · have hbad : k < 0 ∨ 256 ≤ k ∨ 224 < n := by omega
      clear hgood
      have HW := Lib.hid (fun W => write_neg k ep A7 n c7 W hbad)
      have HR := Lib.hid (fun W => rwrite_neg k ep A n c W hbad)
      have HS := Lib.hid (fun W h1 h2 => same_any k ep k ep A7 n c7 bs A n c bs W h1 h2)
      rw [decide_eq_true (p := k = k ∧ ep = ep ∧ bs = bs) ⟨rfl, rfl, rfl⟩] at HS
      clear hbad
      go_wp2_with (first
        | (go_at_call 21; refine (HW.out _).mono ?_; rintro e w4 ⟨rfl, hb4⟩; have hB4 := hBf.trans (hb4.mono hBf.size); have hI4 := box_below hI hb4; have hx4 := box_below hxf hb4; obtain ⟨p0, p1, p2⟩ := box_cells hI4; obtain ⟨q0, q1, q2⟩ := box_cells hx4; have hX4 := hXf.below hb4; have hIb4 := hIb.below hb4)
        | (go_at_call 30; refine (HR.out _).mono ?_; rintro e w5 ⟨v5, rfl, hf5, hb5⟩; obtain ⟨A5, c5, rfl, _, _, _⟩ := id hf5; have hB5 := hB4.trans (hb5.mono hB4.size); have hI5 := box_below hI4 hb5; have hx5 := box_below hx4 hb5; obtain ⟨p0, p1, p2⟩ := box_cells hI5; obtain ⟨q0, q1, q2⟩ := box_cells hx5; have hX5 := hX4.below hb5; have hIb5 := hIb4.below hb5; have hs4 := run_str (w := w5) (A := none) (n := 0) (c := 0) (bs := []) ⟨none, 0, rfl, Nat.le_refl _, by simp, At.nil _ _⟩; have hs5 := run_str (A := A5) (n := 0) (c := c5) (bs := []) hf5)
        | (go_at_call 22; refine (HS.out _ (by exact hIb5) (by exact hX5)).mono ?_; rintro e w6 ⟨rfl, hb6⟩; have hB6 := hB5.trans (hb6.mono hB5.size)))
      go_ret
      exact ⟨rfl, HB0.out.trans (hB6.mono HB0.out.size)⟩
end Go.Proofs.YtljdfhckllncoaaK

import Derived.Test.YtljdfhckllncoaaKNodeW
namespace Go.Proofs.YtljdfhckllncoaaK
open Go.RowKit
set_option linter.unusedSimpArgs false
set_option linter.unusedVariables false
theorem own_apart {w w1 : World} {B n size : Nat} {e : TypeId} {v : Value} {xs : List Value} {row : Option Nat} (h : w.ownsRow B e size v n xs) (hg : w.grownBy w1 row) (hr : ∀ k, row = some k → k < B) : w1.ownsRow B e size v n xs :=
  h.kept hg (by
    cases hv : v.ownBlock with
    | none => exact .inl rfl
    | some k => exact .inr (fun he => by have h1 := (h.lt k hv).1; have h2 := hr k he.symm; omega))
theorem bs_nil (w : World) : Bs w (.slice none 0 0) [] := ⟨none, 0, rfl, Nat.le_refl _, by simp, At.nil _ _⟩
set_option maxRecDepth 10000 in
set_option maxHeartbeats 4000000 in
theorem nodeReads_walk (A : Option Addr) (n c : Nat) (bs : List UInt8) (w : World) (hX : Bs w (.slice A n c) bs) :
    Calls Try.prog 11 #[.slice A n c] w fun e w' => e = .returned (.bool true) ∧ Below w.heap.size w w' := by
  by_cases h1000 : 1000 < n
  · clear hX
    go_enter Try.func11, Try.ntmps11
    go_wp2_with (go_at_call 20; refine (node_speaks _).mono ?_; rintro e w1 ⟨rfl, hb1⟩)
    go_ret
    exact ⟨rfl, hb1⟩
  have HN := Lib.hid hX.len
  have HLn := Lib.hid hX.cells
  have HL63 := Lib.hid (show n ≤ 1000 by omega)
  have tok : True := trivial
  by_cases hbad : n < 9 ∨ 233 < n
  · have HD := Lib.hid (fun W A c => read_bad A n c W hbad)
    have HR := Lib.hid (fun W => rread_bad A n c W hbad)
    have HS := Lib.hid (fun W => same_any 0 0 0 0 none 0 0 [] none 0 0 [] W (bs_nil W) (bs_nil W))
    rw [decide_eq_true (p := (0 : Int) = 0 ∧ (0 : Int) = 0 ∧ ([] : List UInt8) = []) ⟨rfl, rfl, rfl⟩] at HS
    clear hbad
    go_enter Try.func11, Try.ntmps11
    go_wp2_with (first
      | (go_at_call 20; refine (node_speaks _).mono ?_; rintro e w1 ⟨rfl, hb1⟩; have hat := own_empty (w := w1) (b := w1.heap.size) (base := w.heap.size) (e := 5) (size := 1) rfl hb1.size; have hb2 := hb1.alloc hb1.size (.cells #[] 5))
      | (at_builtin; have _t := tok; refine wp_append w.heap.size rfl _ _ 22 5 (.int .u8 0) 1 1 rfl Try.underlying22 info_u8 rfl (by decide) (by decide) (.slice (some ⟨w1.heap.size, 0, none⟩) 0 0) 0 [] A n c (bs.map encB) rfl rfl hat (hX.below hb2).at HLn.out (encB_all bs) hb2.size (by omega) ?_; intro v3 w3 ho3 hg3 ha3; have hb3 := below_grown hb2 hat hg3 hb2.size; rw [Nat.zero_add, List.nil_append] at ho3; obtain ⟨A3, c3, rfl, _, _⟩ := own_form ho3; have hX3 := hX.below hb3; have hI3 := (own_bs ho3).2; have hs3 := hb3.size; clear tok _t hat hg3 ha3)
      | (go_at_call 31; refine (HD.out _ _ _).mono ?_; rintro e w4 ⟨rfl, hb4⟩; have hb5 := (hb3.trans (hb4.mono hs3)).alloc (hb3.trans (hb4.mono hs3)).size (.cells #[.int .i64 0, .int .u64 0, .slice none 0 0] 45); have hs4 := hb4.size)
      | (go_at_call 32; refine (HR.out _).mono ?_; rintro e w5 ⟨rfl, hb5'⟩; have hs5 : w3.heap.size ≤ w5.heap.size := Nat.le_trans hs4 (Nat.le_trans (by simp : w4.heap.size ≤ (w4.alloc (.cells #[.int .i64 0, .int .u64 0, .slice none 0 0] 45)).heap.size) hb5'.size); have hb6 := (hb5.trans (hb5'.mono hb5.size)).alloc (hb5.trans (hb5'.mono hb5.size)).size (.cells #[.int .i64 0, .int .u64 0, .slice none 0 0] 45); have hbn := hb5'.alloc (Nat.le_trans hb5'.size (Nat.le_refl _)) (.cells #[.int .i64 0, .int .u64 0, .slice none 0 0] 45); have hn6 := box_below (heap_alloc_new w4 (.cells #[.int .i64 0, .int .u64 0, .slice none 0 0] 45)) hbn; have hr6 := heap_alloc_new w5 (.cells #[.int .i64 0, .int .u64 0, .slice none 0 0] 45); have ho6 := own_below (own_below (own_below ho3 hb4) ((Below.refl _ _).alloc (Nat.le_refl _) (.cells #[.int .i64 0, .int .u64 0, .slice none 0 0] 45))) hbn))
    obtain ⟨W6, hW6⟩ : ∃ W6, W6 = w5.alloc (.cells #[.int .i64 0, .int .u64 0, .slice none 0 0] 45) := ⟨_, rfl⟩
    rw [← hW6] at hb6 ho6 hn6 hr6 
    rw [← hW6]
    clear hW6
    have hlt3 := fun k hk => (ho3.lt k hk).2
    have HLT := Lib.hid hlt3
    clear hlt3
    obtain ⟨nb, hnb⟩ : ∃ nb, nb = w4.heap.size := ⟨_, rfl⟩
    obtain ⟨rb, hrb⟩ : ∃ rb, rb = w5.heap.size := ⟨_, rfl⟩
    have hnb3 : w3.heap.size ≤ nb := by rw [hnb]; exact hs4
    have hrb3 : w3.heap.size ≤ rb := by rw [hrb]; exact hs5
    simp only [← hnb, ← hrb] at hn6 hr6 ⊢
    clear hnb hrb
    go_loopw [8, 31] (fun v8 i wr => ∃ (j : Nat) (ys : List UInt8), j ≤ n ∧ i = .int .i64 j ∧ wr.ownsRow w.heap.size 5 1 (.slice A3 n c3) n (ys.map encB) ∧ W6.grownBy wr (Value.slice A3 n c3).ownBlock) (fun _ i _ => n - (intOf i).toNat)
    case atStart => exact ⟨0, bs, Nat.zero_le _, rfl, ho6, World.grownBy.refl _ _⟩
    case round =>
      obtain ⟨j, ys, hj, rfl, hor, hgr⟩ := hrel
      by_cases hlt : j < n
      · obtain ⟨g, c6, he, _, hgb, _, _⟩ := own_pos hor (by omega)
        injection he with e1 e2 e3
        subst e1 e3
        clear e2
        obtain ⟨z, hz⟩ : ∃ z, ys[j]? = some z := ⟨ys[j]'(by have := (own_bs hor).1; omega), List.getElem?_eq_getElem _⟩
        obtain ⟨hcell, hfr⟩ := own_cell hor j (encB z) (by rw [List.getElem?_map, hz]; rfl)
        have hs := Lib.hid (hor.stored j (encB 238)).1
        rw [show (ys.map encB).set j (encB 238) = (ys.set j 238).map encB from by rw [List.map_set]] at hs
        have hgn := grown_trans hgr (grown_set wr g j (encB 238))
        clear ho3 ho6 hn6 hr6 hor hgr hX hX3 hI3 
        go_wp2
        go_roundw
        case rel => exact ⟨j + 1, ys.set j 238, by omega, by go_num, hs.out, hgn⟩
        case measure => simp [intOf]; omega
      · obtain rfl : j = n := by omega
        have hne : ∀ k, w3.heap.size ≤ k → some k ≠ (Value.slice A3 j c3).ownBlock := fun k hk he => by have := HLT.out k he.symm; omega
        have hb7 := hb6.grown hgr hb6.size (own_base ho6)
        have hn7 := (hgr.block nb (Array.getElem?_eq_some_iff.1 hn6).1 (hne nb hnb3)).trans hn6
        have hr7 := (hgr.block rb (Array.getElem?_eq_some_iff.1 hr6).1 (hne rb hrb3)).trans hr6
        have hX7 := hX.below hb7
        obtain ⟨p0, p1, p2⟩ := box_cells hn7
        obtain ⟨q0, q1, q2⟩ := box_cells hr7
        clear hnb3
        go_wp2_with (go_at_call 22; refine (HS.out _).mono ?_; rintro e w8 ⟨rfl, hb8⟩; have hb9 := hb7.trans (hb8.mono hb7.size))
        go_ret
        exact ⟨rfl, hb9⟩
  have h9 : 9 ≤ n := by omega
  have h233 : n ≤ 233 := by omega
  have HD := Lib.hid (fun W A c h => read_ok A n c bs W h h9 h233)
  have HR := Lib.hid (fun W h => rread_ok A n c bs W h h9 h233)
  have hkl := nodeK_lt bs
  have hel := nodeE_lt bs
  have hbb := nodeB_read bs (by rw [← HN.out]; exact h9)
  obtain ⟨Y, hY⟩ : ∃ Y, Y = bs.drop 9 := ⟨_, rfl⟩
  have hYl : Y.length = n - 9 := by rw [hY, List.length_drop, ← HN.out]
  obtain ⟨K, hK⟩ : ∃ K, K = nodeK bs := ⟨_, rfl⟩
  obtain ⟨E, hE⟩ : ∃ E, E = nodeE bs := ⟨_, rfl⟩
  rw [← hK, ← hE, ← hY] at HD HR hbb
  rw [← hK] at hkl
  rw [← hE] at hel
  clear hK hE hY
  have HS := Lib.hid (fun W A1 n1 c1 A2 n2 c2 h1 h2 => same_any (K : Int) (E : Int) (K : Int) (E : Int) A1 n1 c1 Y A2 n2 c2 Y W h1 h2)
  rw [decide_eq_true (p := (K : Int) = K ∧ (E : Int) = E ∧ Y = Y) ⟨rfl, rfl, rfl⟩] at HS
  have HW := Lib.hid (fun W A1 n1 c1 hn h => write_ok K E A1 n1 c1 Y W hkl hel hn h)
  rw [hbb] at HW
  have HYl := Lib.hid hYl
  clear hkl hel hbb hYl
  go_enter Try.func11, Try.ntmps11
  go_wp2_with (first
    | (go_at_call 20; refine (node_speaks _).mono ?_; rintro e w1 ⟨rfl, hb1⟩; have hat := own_empty (w := w1) (b := w1.heap.size) (base := w.heap.size) (e := 5) (size := 1) rfl hb1.size; have hb2 := hb1.alloc hb1.size (.cells #[] 5))
    | (at_builtin; have _t := tok; refine wp_append w.heap.size rfl _ _ 22 5 (.int .u8 0) 1 1 rfl Try.underlying22 info_u8 rfl (by decide) (by decide) (.slice (some ⟨w1.heap.size, 0, none⟩) 0 0) 0 [] A n c (bs.map encB) rfl rfl hat (hX.below hb2).at HLn.out (encB_all bs) hb2.size (by omega) ?_; intro v3 w3 ho3 hg3 ha3; have hb3 := below_grown hb2 hat hg3 hb2.size; rw [Nat.zero_add, List.nil_append] at ho3; obtain ⟨A3, c3, rfl, _, _⟩ := own_form ho3; have hX3 := hX.below hb3; have hI3 := (own_bs ho3).2; have hs3 := hb3.size; clear tok _t hat hg3 ha3)
    | (go_at_call 31; refine (HD.out _ _ _ (by exact hI3)).mono ?_; rintro e w4 ⟨v4, m4, rfl, ho4, hb4⟩; obtain ⟨A8, c8, rfl, _, _⟩ := own_form ho4; have hq4 := hb3.trans (hb4.mono hs3); have hb5 := hq4.alloc hq4.size (.cells #[.int .i64 (K : Int), .int .u64 (E : Int), .slice A8 m4 c8] 45); have hs4 := hb4.size; have hX5 := (hX3.below hb4).alloc (.cells #[.int .i64 (K : Int), .int .u64 (E : Int), .slice A8 m4 c8] 45))
    | (go_at_call 32; refine (HR.out _ (by exact hX5)).mono ?_; rintro e w5 ⟨v5, m5, rfl, ho5, hb5'⟩; obtain ⟨A9, c9, rfl, _, _⟩ := own_form ho5; have hs5 : w3.heap.size ≤ w5.heap.size := Nat.le_trans hs4 (Nat.le_trans (by simp : w4.heap.size ≤ (w4.alloc (.cells #[.int .i64 (K : Int), .int .u64 (E : Int), .slice A8 m4 c8] 45)).heap.size) hb5'.size); have hq5 := hb5.trans (hb5'.mono hb5.size); have hb6 := hq5.alloc hq5.size (.cells #[.int .i64 (K : Int), .int .u64 (E : Int), .slice A9 m5 c9] 45); have hbn := hb5'.alloc hb5'.size (.cells #[.int .i64 (K : Int), .int .u64 (E : Int), .slice A9 m5 c9] 45); have hn6 := box_below (heap_alloc_new w4 (.cells #[.int .i64 (K : Int), .int .u64 (E : Int), .slice A8 m4 c8] 45)) hbn; have hr6 := heap_alloc_new w5 (.cells #[.int .i64 (K : Int), .int .u64 (E : Int), .slice A9 m5 c9] 45); have ho6 := own_below (own_below (own_below ho3 hb4) ((Below.refl _ _).alloc (Nat.le_refl _) (.cells #[.int .i64 (K : Int), .int .u64 (E : Int), .slice A8 m4 c8] 45))) hbn; have hv6 := own_below (ho4.alloc (.cells #[.int .i64 (K : Int), .int .u64 (E : Int), .slice A8 m4 c8] 45)) hbn; have hu6 := (own_mono ho5 (Nat.le_trans hs4 (by simp : w4.heap.size ≤ (w4.alloc (.cells #[.int .i64 (K : Int), .int .u64 (E : Int), .slice A8 m4 c8] 45)).heap.size))).alloc (.cells #[.int .i64 (K : Int), .int .u64 (E : Int), .slice A9 m5 c9] 45)))
  obtain ⟨W6, hW6⟩ : ∃ W6, W6 = w5.alloc (.cells #[.int .i64 (K : Int), .int .u64 (E : Int), .slice A9 m5 c9] 45) := ⟨_, rfl⟩
  rw [← hW6] at hb6 ho6 hn6 hr6 hv6 hu6
  rw [← hW6]
  clear hW6
  have hlt3 := fun k hk => (ho3.lt k hk).2
  have HLT := Lib.hid hlt3
  clear hlt3
  obtain ⟨nb, hnb⟩ : ∃ nb, nb = w4.heap.size := ⟨_, rfl⟩
  obtain ⟨rb, hrb⟩ : ∃ rb, rb = w5.heap.size := ⟨_, rfl⟩
  have hnb3 : w3.heap.size ≤ nb := by rw [hnb]; exact hs4
  have hrb3 : w3.heap.size ≤ rb := by rw [hrb]; exact hs5
  simp only [← hnb, ← hrb] at hn6 hr6 ⊢
  clear hnb hrb
  go_loopw [8, 31] (fun v8 i wr => ∃ (j : Nat) (ys : List UInt8), j ≤ n ∧ i = .int .i64 j ∧ wr.ownsRow w.heap.size 5 1 (.slice A3 n c3) n (ys.map encB) ∧ W6.grownBy wr (Value.slice A3 n c3).ownBlock) (fun _ i _ => n - (intOf i).toNat)
  case atStart => exact ⟨0, bs, Nat.zero_le _, rfl, ho6, World.grownBy.refl _ _⟩
  case round =>
    obtain ⟨j, ys, hj, rfl, hor, hgr⟩ := hrel
    by_cases hlt : j < n
    · obtain ⟨g, c6, he, _, hgb, _, _⟩ := own_pos hor (by omega)
      injection he with e1 e2 e3
      subst e1 e3
      clear e2
      obtain ⟨z, hz⟩ : ∃ z, ys[j]? = some z := ⟨ys[j]'(by have := (own_bs hor).1; omega), List.getElem?_eq_getElem _⟩
      obtain ⟨hcell, hfr⟩ := own_cell hor j (encB z) (by rw [List.getElem?_map, hz]; rfl)
      have hs := Lib.hid (hor.stored j (encB 238)).1
      rw [show (ys.map encB).set j (encB 238) = (ys.set j 238).map encB from by rw [List.map_set]] at hs
      have hgn := grown_trans hgr (grown_set wr g j (encB 238))
      clear ho3 ho6 hn6 hr6 hor hgr hX hX3 hI3 hv6 hu6
      go_wp2
      go_roundw
      case rel => exact ⟨j + 1, ys.set j 238, by omega, by go_num, hs.out, hgn⟩
      case measure => simp [intOf]; omega
    · obtain rfl : j = n := by omega
      have hne : ∀ k, w3.heap.size ≤ k → some k ≠ (Value.slice A3 j c3).ownBlock := fun k hk he => by have := HLT.out k he.symm; omega
      have hb7 := hb6.grown hgr hb6.size (own_base ho6)
      have hn7 := (hgr.block nb (Array.getElem?_eq_some_iff.1 hn6).1 (hne nb hnb3)).trans hn6
      have hr7 := (hgr.block rb (Array.getElem?_eq_some_iff.1 hr6).1 (hne rb hrb3)).trans hr6
      have hX7 := hX.below hb7
      obtain ⟨p0, p1, p2⟩ := box_cells hn7
      obtain ⟨q0, q1, q2⟩ := box_cells hr7
      have hv7 := own_apart hv6 hgr HLT.out
      have hu7 := own_apart hu6 hgr HLT.out
      have hm4 := (own_bs hv7).1
      have hm5 := (own_bs hu7).1
      have hV7 := (own_bs hv7).2
      have hU7 := (own_bs hu7).2
      clear hv6 hu6 hv7 hu7 hn6 hr6 ho6 hor hgr ho3 ho4 ho5 hX hX3 hX5 hI3 hb5' hbn
      have hm4' : m4 ≤ 224 := by rw [hm4, HYl.out]; omega
      have HM := Lib.hid hm4
      clear hm4 hm5
      go_wp2_with (first
        | (go_at_call 22; refine (HS.out _ _ _ _ _ _ _ (by exact hV7) (by exact hU7)).mono ?_; rintro e w8 ⟨rfl, hb8⟩; have hb9 := hb7.trans (hb8.mono hb7.size); have hn8 := box_below hn7 hb8; obtain ⟨p0, p1, p2⟩ := box_cells hn8; have hV8 := hV7.below hb8; have hX8 := hX7.below hb8)
        | (go_at_call 21; refine (HW.out _ _ _ _ hm4' (by exact hV8)).mono ?_; rintro e w9 ⟨v9, rfl, hf9, hb10⟩; obtain ⟨A10, c10, rfl, _, _, _⟩ := id hf9.1; have hb11 := hb9.trans (hb10.mono hb9.size); have hs9 := run_str hf9.1; have hs10 := run_str (hX8.below hb10)))
      go_ret
      exact ⟨rfl, hb11⟩
end Go.Proofs.YtljdfhckllncoaaK

import Derived.Test.YteghldapcfkekaaKRrdA
import Derived.Test.YteghldapcfkekaaKIrd
import Derived.Test.YteghldapcfkekaaKIsp
import Derived.Test.YteghldapcfkekaaKSam
import Derived.Test.YteghldapcfkekaaKOpen
namespace Go.Proofs.YteghldapcfkekaaK
open Go.RowKit
set_option linter.unusedSimpArgs false
set_option linter.unusedVariables false
/-! InodeReads. -/
theorem rdOut_no {bs : List UInt8} {e : Ending} {w' : World} (h : rdI bs = none) (hr : RdOut bs e w') : ∃ (A1 : Option Addr) (n1 c1 : Nat), e = .returned (.tuple #[.agg #[.int .i64 0, .int .i64 0, .slice A1 n1 c1], .int .i64 11]) ∧ Es w' (.slice A1 n1 c1) [] := by
  unfold RdOut at hr
  rw [h] at hr
  exact ⟨none, 0, 0, hr, es_nil _⟩
theorem rdOut_yes {bs : List UInt8} {K Z : Int} {es : List (List UInt8 × Int)} {e : Ending} {w' : World} (h : rdI bs = some (K, Z, es)) (hr : RdOut bs e w') : ∃ (A1 : Option Addr) (n1 c1 : Nat), e = .returned (.tuple #[.agg #[.int .i64 K, .int .i64 Z, .slice A1 n1 c1], .int .i64 0]) ∧ Es w' (.slice A1 n1 c1) es := by
  unfold RdOut at hr
  rw [h] at hr
  obtain ⟨v, he, A1, c1, rfl, h3⟩ := hr
  exact ⟨A1, _, c1, he, A1, c1, rfl, h3⟩
theorem reads_both {bs : List UInt8} {K Z E : Int} {es : List (List UInt8 × Int)} (hl : bs.length ≤ 1000) (h : (rdI bs = none ∧ K = 0 ∧ Z = 0 ∧ E = 11 ∧ es = []) ∨ (rdI bs = some (K, Z, es) ∧ E = 0)) (A : Option Addr) (n c : Nat) (w : World) (hX : Bs w (.slice A n c) bs) :
    (Calls Try.prog 16 #[.slice A n c] w fun e w' => ∃ (A1 : Option Addr) (n1 c1 : Nat), e = .returned (.tuple #[.agg #[.int .i64 K, .int .i64 Z, .slice A1 n1 c1], .int .i64 E]) ∧ Es w' (.slice A1 n1 c1) es ∧ Below w.heap.size w w') ∧
    (Calls Try.prog 17 #[.slice A n c] w fun e w' => ∃ (A1 : Option Addr) (n1 c1 : Nat), e = .returned (.tuple #[.agg #[.int .i64 K, .int .i64 Z, .slice A1 n1 c1], .int .i64 E]) ∧ Es w' (.slice A1 n1 c1) es ∧ Below w.heap.size w w') := by
  have go : ∀ e w', RdOut bs e w' ∧ Below w.heap.size w w' → ∃ (A1 : Option Addr) (n1 c1 : Nat), e = .returned (.tuple #[.agg #[.int .i64 K, .int .i64 Z, .slice A1 n1 c1], .int .i64 E]) ∧ Es w' (.slice A1 n1 c1) es ∧ Below w.heap.size w w' := by
    rintro e w' ⟨h1, h2⟩
    rcases h with ⟨hn, rfl, rfl, rfl, rfl⟩ | ⟨hy, rfl⟩
    · obtain ⟨A1, n1, c1, h3, h4⟩ := rdOut_no hn h1
      exact ⟨A1, n1, c1, h3, h4, h2⟩
    · obtain ⟨A1, n1, c1, h3, h4⟩ := rdOut_yes hy h1
      exact ⟨A1, n1, c1, h3, h4, h2⟩
  exact ⟨(iread_any A n c bs w hX hl).mono go, (rread18_any A n c bs w hX hl).mono go⟩
set_option maxRecDepth 100000 in
set_option maxHeartbeats 16000000 in
theorem inodeReads_walk (A : Option Addr) (n c : Nat) (bs : List UInt8) (w : World) (hX : Bs w (.slice A n c) bs) :
    Calls Try.prog 5 #[.slice A n c] w fun e w' => e = .returned (.bool true) ∧ Below w.heap.size w w' := by
  have HN := Lib.hid hX.len
  have HX := Lib.hid hX
  have HS := Lib.hid inode_speaks
  clear hX
  by_cases hl : 1000 < n
  · go_enter Try.func5, Try.ntmps5
    go_wp2_with (go_at_call 8; refine (HS.out _).mono ?_; rintro e w1 ⟨rfl, hb1⟩)
    go_ret
    exact ⟨rfl, hb1⟩
  have hl2 : n ≤ 1000 := Nat.le_of_not_lt hl
  have HL : Hid (bs.length ≤ 1000) := Lib.hid (by rw [← HN.out]; exact hl2)
  have hqb : (bs == bs) = true := beq_self_eq_true bs
  have tok : True := trivial
  rcases hD : rdI bs with _ | ⟨K, Z, es⟩
  · have HRD := Lib.hid (fun A n c W h => reads_both (K := 0) (Z := 0) (E := 11) (es := []) HL.out (.inl ⟨hD, rfl, rfl, rfl, rfl⟩) A n c W h)
    have HSm := Lib.hid (fun A B n c n' c' W h h' => same_eq 0 0 [] A B n c n' c' W h h')
    clear hD
    go_enter Try.func5, Try.ntmps5
    go_wp2_with (first
      | (go_at_call 8; refine (HS.out _).mono ?_; rintro e w1 ⟨rfl, hb1⟩; have hX1 := HX.out.below hb1; have hal := hb1.alloc hb1.size (.cells #[] 5); have hoE := own_empty (w := w1) (base := w.heap.size) (b := w1.heap.size) (e := 5) (size := 1) rfl hb1.size)
      | (at_builtin; go_must (refine wp_append w.heap.size rfl _ _ 30 5 (.int .u8 0) 1 1 rfl Try.underlying30 info_u8 rfl (by decide) (by decide) (.slice (some ⟨w1.heap.size, 0, none⟩) 0 0) 0 [] A n c (bs.map encB) rfl rfl hoE (hX1.alloc _).at (by rw [List.length_map, ← HN.out, Nat.mul_one]) (encB_all _) hal.size (by omega) ?_); intro v1 w5 ho1 hg1 ha1; obtain ⟨A5, c5, rfl, _, _⟩ := own_form ho1; have hbw5 := below_grown hal hoE hg1 hal.size; rw [Nat.zero_add] at ho1 ⊢; rw [List.nil_append] at ho1; have hs5 := (own_bs ho1).2; have hX5 := HX.out.below hbw5)
      | (go_at_call 16; refine (HRD.out _ _ _ _ hs5).1.mono ?_; rintro e w6 ⟨A6, n6, c6, rfl, hE6, hb6⟩; have hal6 := (Below.refl w6.heap.size w6).alloc (Nat.le_refl _) (.cells #[.int .i64 0, .int .i64 0, .slice A6 n6 c6] 28); have hb6' := hb6.trans (hal6.mono hb6.size))
      | (go_at_call 17; refine (HRD.out _ _ _ _ (hX5.below hb6')).2.mono ?_; rintro e w7 ⟨A7, n7, c7, rfl, hE7, hb7⟩; have hQ4 := ((Bx.here w6 (.cells #[.int .i64 0, .int .i64 0, .slice A6 n6 c6] 28)).go hb7).alloc (.cells #[.int .i64 0, .int .i64 0, .slice A7 n7 c7] 28); have hQ6 := Bx.here w7 (.cells #[.int .i64 0, .int .i64 0, .slice A7 n7 c7] 28); have k0 := hQ4.cell 0 _ rfl; have k1 := hQ4.cell 1 _ rfl; have k2 := hQ4.cell 2 _ rfl; have l0 := hQ6.cell 0 _ rfl; have l1 := hQ6.cell 1 _ rfl; have l2 := hQ6.cell 2 _ rfl; have hal7 := (Below.refl w7.heap.size w7).alloc (Nat.le_refl _) (.cells #[.int .i64 0, .int .i64 0, .slice A7 n7 c7] 28); have hE6' := ((hE6.below hal6).below hb7).below hal7; have hE7' := hE7.below hal7; have hb7' := hb6'.trans ((hb7.trans (hal7.mono hb7.size)).mono hb6'.size))
      | (go_at_call 15; refine (HSm.out _ _ _ _ _ _ _ hE6' hE7').mono ?_; rintro e w8 ⟨rfl, hb8⟩; have hb8' := hb7'.trans (hb8.mono hb7'.size); have hbw8 := hbw5.trans (hb8'.mono hbw5.size); have hst1 := run_str (hs5.below hb8'); have hst2 := run_str (hX5.below hb8'); have hQ8 := hQ4.go hb8; have m0 := hQ8.cell 0 _ rfl; have m1 := hQ8.cell 1 _ rfl; have m2 := hQ8.cell 2 _ rfl; have hE8 := hE6'.below hb8))
    go_ret
    exact ⟨rfl, hbw8⟩
  · obtain ⟨hr, hw⟩ := rdI_some hD
    have HRD := Lib.hid (fun A n c W h => reads_both (E := 0) HL.out (.inr ⟨hD, rfl⟩) A n c W h)
    have HSm := Lib.hid (fun A B n c n' c' W h h' => same_eq K Z es A B n c n' c' W h h')
    have HC := Lib.hid (fun A n c W h => iwrite_at hr hw.symm (show errI true = 0 from rfl) A n c W h)
    clear hD hr hw
    go_enter Try.func5, Try.ntmps5
    go_wp2_with (first
      | (go_at_call 8; refine (HS.out _).mono ?_; rintro e w1 ⟨rfl, hb1⟩; have hX1 := HX.out.below hb1; have hal := hb1.alloc hb1.size (.cells #[] 5); have hoE := own_empty (w := w1) (base := w.heap.size) (b := w1.heap.size) (e := 5) (size := 1) rfl hb1.size)
      | (at_builtin; go_must (refine wp_append w.heap.size rfl _ _ 30 5 (.int .u8 0) 1 1 rfl Try.underlying30 info_u8 rfl (by decide) (by decide) (.slice (some ⟨w1.heap.size, 0, none⟩) 0 0) 0 [] A n c (bs.map encB) rfl rfl hoE (hX1.alloc _).at (by rw [List.length_map, ← HN.out, Nat.mul_one]) (encB_all _) hal.size (by omega) ?_); intro v1 w5 ho1 hg1 ha1; obtain ⟨A5, c5, rfl, _, _⟩ := own_form ho1; have hbw5 := below_grown hal hoE hg1 hal.size; rw [Nat.zero_add] at ho1 ⊢; rw [List.nil_append] at ho1; have hs5 := (own_bs ho1).2; have hX5 := HX.out.below hbw5)
      | (go_at_call 16; refine (HRD.out _ _ _ _ hs5).1.mono ?_; rintro e w6 ⟨A6, n6, c6, rfl, hE6, hb6⟩; have hal6 := (Below.refl w6.heap.size w6).alloc (Nat.le_refl _) (.cells #[.int .i64 K, .int .i64 Z, .slice A6 n6 c6] 28); have hb6' := hb6.trans (hal6.mono hb6.size))
      | (go_at_call 17; refine (HRD.out _ _ _ _ (hX5.below hb6')).2.mono ?_; rintro e w7 ⟨A7, n7, c7, rfl, hE7, hb7⟩; have hQ4 := ((Bx.here w6 (.cells #[.int .i64 K, .int .i64 Z, .slice A6 n6 c6] 28)).go hb7).alloc (.cells #[.int .i64 K, .int .i64 Z, .slice A7 n7 c7] 28); have hQ6 := Bx.here w7 (.cells #[.int .i64 K, .int .i64 Z, .slice A7 n7 c7] 28); have k0 := hQ4.cell 0 _ rfl; have k1 := hQ4.cell 1 _ rfl; have k2 := hQ4.cell 2 _ rfl; have l0 := hQ6.cell 0 _ rfl; have l1 := hQ6.cell 1 _ rfl; have l2 := hQ6.cell 2 _ rfl; have hal7 := (Below.refl w7.heap.size w7).alloc (Nat.le_refl _) (.cells #[.int .i64 K, .int .i64 Z, .slice A7 n7 c7] 28); have hE6' := ((hE6.below hal6).below hb7).below hal7; have hE7' := hE7.below hal7; have hb7' := hb6'.trans ((hb7.trans (hal7.mono hb7.size)).mono hb6'.size))
      | (go_at_call 15; refine (HSm.out _ _ _ _ _ _ _ hE6' hE7').mono ?_; rintro e w8 ⟨rfl, hb8⟩; have hb8' := hb7'.trans (hb8.mono hb7'.size); have hbw8 := hbw5.trans (hb8'.mono hbw5.size); have hst1 := run_str (hs5.below hb8'); have hst2 := run_str (hX5.below hb8'); have hQ8 := hQ4.go hb8; have m0 := hQ8.cell 0 _ rfl; have m1 := hQ8.cell 1 _ rfl; have m2 := hQ8.cell 2 _ rfl; have hE8 := hE6'.below hb8)
      | (go_at_call 12; refine (HC.out _ _ _ _ hE8).1.mono ?_; rintro e w9 ⟨A9, n9, c9, rfl, hs9, hb9⟩; have hst3 := run_str hs9; have hst4 := run_str ((hX5.below hb8').below hb9)))
    go_ret
    exact ⟨rfl, hbw8.trans (hb9.mono hbw8.size)⟩
end Go.Proofs.YteghldapcfkekaaK

import Derived.Test.YtcknoadoeonbjaaKCrcL
namespace Go.Proofs.YtcknoadoeonbjaaK
open Go.RowKit
set_option linter.unusedSimpArgs false
set_option linter.unusedVariables false
set_option maxHeartbeats 1000000 in
theorem crcParts_walk (s : Int) (s0 : B32) (hs : s = (s0.toNat : Int)) (A B : Option Addr) (n m cap cap2 : Nat) (xs ys : List UInt8) (w : World) (hn : n = xs.length) (hm : m = ys.length) (hX : Bs w (.slice A n cap) xs) (hY : Bs w (.slice B m cap2) ys) :
    Calls Try.prog 9 #[.slice A n cap, .slice B m cap2, .int .u32 s] w fun e w' => e = .returned (.bool true) ∧ Below w.heap.size w w' := by
  have HN := Lib.hid hn
  have HM := Lib.hid hm
  have HS := Lib.hid hs
  clear hn hm hs
  by_cases h50 : 5000 < n ∨ 5000 < m
  · go_enter Try.func9, Try.ntmps9
    go_wp2_with (go_at_call 28; refine (crc_speaks _).mono ?_; rintro e w' ⟨rfl, hb⟩)
    all_goals
      go_ret
      exact ⟨rfl, ‹_›⟩
  have hb1 : n ≤ 5000 := by omega
  have hb2 : m ≤ 5000 := by omega
  clear h50
  obtain ⟨r1, hr1⟩ : ∃ r, ((crcF s0 xs).toNat : Int) = r := ⟨_, rfl⟩
  obtain ⟨r2, hr2⟩ : ∃ r, ((crcF s0 (xs ++ ys)).toNat : Int) = r := ⟨_, rfl⟩
  obtain ⟨r3, hr3⟩ : ∃ r, ((crcF 0#32 (xs ++ ys)).toNat : Int) = r := ⟨_, rfl⟩
  have HR1 := Lib.hid hr1
  have HR2 := Lib.hid hr2
  have HR3 := Lib.hid hr3
  clear hr1 hr2 hr3
  go_enter Try.func9, Try.ntmps9
  go_wp2_with (go_at_call 28; refine (crc_speaks _).mono ?_; rintro e w1 ⟨rfl, hb⟩)
  have hX1 := hX.below hb
  have hY1 := hY.below hb
  refine Calls.mono (on_r s r1 s0 HS.out _ _ _ [xs] _ rfl (Bss.new1 (by simp) hX1) (by rw [← HR1.out]; simp)) ?_
  rintro e w2 ⟨rfl, rfl⟩
  go_wp2_with fail
  refine Calls.mono (on_r r1 r2 (crcF s0 xs) HR1.out.symm _ _ _ [ys] _ rfl (Bss.new1 (by simp) (by repeat (first | exact hY1 | apply Bs.alloc))) (by rw [← HR2.out, crcF_append]; simp)) ?_
  rintro e w2 ⟨rfl, rfl⟩
  go_wp2_with fail
  refine Calls.mono (on_r s r2 s0 HS.out _ _ _ [xs, ys] _ rfl (Bss.new2 (by simp) (by repeat (first | exact hX1 | apply Bs.alloc)) (by repeat (first | exact hY1 | apply Bs.alloc))) (by rw [← HR2.out]; simp)) ?_
  rintro e w2 ⟨rfl, rfl⟩
  go_wp2_with fail
  refine Calls.mono (sum_r r3 _ _ _ [xs, ys] _ rfl (Bss.new2 (by simp) (by repeat (first | exact hX1 | apply Bs.alloc)) (by repeat (first | exact hY1 | apply Bs.alloc))) (by rw [← HR3.out]; simp)) ?_
  rintro e w2 ⟨rfl, rfl⟩
  obtain ⟨W, hWd⟩ : ∃ W : World, W = (((w1.alloc (Obj.cells #[Value.slice A n cap] 24)).alloc (Obj.cells #[Value.slice B m cap2] 24)).alloc (Obj.cells #[Value.slice A n cap, Value.slice B m cap2] 24)).alloc (Obj.cells #[Value.slice A n cap, Value.slice B m cap2] 24) := ⟨_, rfl⟩
  have hX2 : Bs W (.slice A n cap) xs := by rw [hWd]; repeat (first | exact hX1 | apply Bs.alloc)
  have hY2 : Bs W (.slice B m cap2) ys := by rw [hWd]; repeat (first | exact hY1 | apply Bs.alloc)
  have hb2' : Below w.heap.size w W := by rw [hWd]; exact (((hb.alloc hb.size _).alloc (by have := hb.size; simp; omega) _).alloc (by have := hb.size; simp; omega) _).alloc (by have := hb.size; simp; omega) _
  rw [← hWd]
  clear hWd hb
  have hat := own_empty (w := W) (b := W.heap.size) (base := w.heap.size) (e := 5) (size := 1) rfl hb2'.size
  have hb3 := hb2'.alloc hb2'.size (.cells #[] 5)
  have hA := (hX.below hb3).at
  have HXL := Lib.hid hX.cells
  have HYL := Lib.hid hY.cells
  clear hX1 hX2 hY1 hY2
  have tok : True := trivial
  go_wp2_with (first | (at_builtin; have _t := tok; refine wp_append w.heap.size rfl _ _ 24 5 (.int .u8 0) 1 1 rfl Try.underlying24 info5 rfl (by decide) (by decide) (.slice (some ⟨W.heap.size, 0, none⟩) 0 0) 0 [] A n cap (xs.map encB) rfl rfl hat hA HXL.out (encB_all xs) hb3.size (by omega) ?_; intro v1 w2 ho1 hg1 ha1; have hb4 := below_grown hb3 hat hg1 hb3.size; have hB2 := (hY.below hb4).at; clear tok _t hat hA hg1 ha1) | (at_builtin; refine wp_append w.heap.size rfl _ _ 24 5 (.int .u8 0) 1 1 rfl Try.underlying24 info5 rfl (by decide) (by decide) v1 (0 + n) _ B m cap2 (ys.map encB) rfl rfl ho1 hB2 HYL.out (encB_all ys) hb4.size (by omega) ?_; intro v2 w3 ho2 hg2 ha2; have hb5 := below_grown hb4 ho1 hg2 hb4.size; obtain ⟨A5, c5, rfl, _, _⟩ := own_form ho2; clear ho1 hB2 hg2 ha2 hb4))
  rw [List.nil_append, ← List.map_append] at ho2
  have hbs := (own_bs ho2).2
  rw [Nat.zero_add] at hbs
  refine Calls.mono (sum_r r3 _ _ _ [xs ++ ys] _ rfl (Bss.new1 (by first | rfl | simp) hbs) (by rw [← HR3.out]; simp)) ?_
  rintro e w4 ⟨rfl, rfl⟩
  go_wp2
  go_ret
  exact ⟨rfl, hb5.alloc hb5.size _⟩
end Go.Proofs.YtcknoadoeonbjaaK

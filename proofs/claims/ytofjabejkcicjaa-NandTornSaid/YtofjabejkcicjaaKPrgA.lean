import Derived.Test.YtofjabejkcicjaaKPrg
namespace Go.Proofs.YtofjabejkcicjaaK
open Go.RowKit
set_option linter.unusedSimpArgs false
set_option linter.unusedVariables false
/-! Chip.Program, at any block and page. -/
set_option maxRecDepth 100000 in
set_option maxHeartbeats 8000000 in
theorem prog_any (S : List Nat) (pb cb rb : Nat) (P : Pw) (c : Ch) (b p : Int) (D : Nat → UInt8) (w : World) (hP : PwW w pb P) (hC : ChW w S pb cb rb c) (ha : Apart S pb cb rb) (ho : Okay P c) :
    Calls Try.prog 13 #[.pointer (some ⟨cb, 0, none⟩), .int .i64 b, .int .i64 p, .agg (pgL D).toArray] w fun e w' =>
      e = .returned (.int .i64 (progE P c b p)) ∧ PwW w' pb (progP P c b p) ∧ ChW w' S pb cb rb (progC P c b p D) ∧ Chg [pb, cb, rb] w w' := by
  obtain ⟨x, hx⟩ : ∃ x, x = mayC P c b p := ⟨_, rfl⟩
  by_cases hon : x = 0
  · have hon' : mayC P c b p = 0 := by rw [← hx]; exact hon
    obtain ⟨_, _, _, hb0, hb1, hp0, hp8⟩ := mayC_zero hon'
    obtain ⟨B, rfl⟩ : ∃ B : Nat, b = B := ⟨b.toNat, by omega⟩
    obtain ⟨q, rfl⟩ : ∃ q : Nat, p = q := ⟨p.toNat, by omega⟩
    by_cases hnx : (q : Int) = c.nx B
    · have h := prog_in S pb cb rb P c B q D w hP hC ha ho (by omega) (by omega) hon' hnx.symm
      have e1 : progOn P c B q := ⟨hon', by rw [Int.toNat_natCast]; exact hnx⟩
      unfold progE progP progC
      rw [if_pos e1, if_pos e1, if_neg (by rw [hon']; simp), if_neg (by rw [Int.toNat_natCast]; simpa using hnx), Int.toNat_natCast, Int.toNat_natCast]
      exact h
    · have e1 : ¬ progOn P c B q := fun h => hnx (by have := h.2; rwa [Int.toNat_natCast] at this)
      unfold progE progP progC
      rw [if_neg e1, if_neg e1, if_neg (by rw [hon']; simp), if_pos (by rw [Int.toNat_natCast]; exact hnx)]
      clear e1
      have hbn : B < c.n := by omega
      obtain ⟨L, hL⟩ : ∃ L, L = pgL D := ⟨_, rfl⟩
      rw [← hL]
      obtain ⟨W, hW⟩ : ∃ W, W = w.alloc (.cells L.toArray 34) := ⟨_, rfl⟩
      have hbl : Below w.heap.size w W := by rw [hW]; exact (Below.refl _ _).alloc (Nat.le_refl _) _
      have hP0 := hP.below hbl
      have hC0 := hC.below hbl
      have HF := Lib.hid (⟨hP0, hC0, Chg.ofBelow hbl⟩ : PwW W pb P ∧ ChW W S pb cb rb c ∧ Chg [pb, cb, rb] w W)
      obtain ⟨v1, v2, hCh, hI1, hI2, hR⟩ := hC0
      have HM := Lib.hid (may_any cb pb _ c.n c.n c.dead c.out v1 c.pc v2 c.wc c.cnt P.off P.aft P.keep (B : Int) (q : Int) W hCh hP0)
      have hon2 : mayI P.off (!c.dead && !c.out) c.n (B : Int) (q : Int) = 0 := hon'
      rw [hon2] at HM
      have k1 : W.cell? ⟨cb, 1, none⟩ = some (.slice (some ⟨rb, 0, none⟩) c.n c.n) := cellP hCh 1
      have r1 := hR.at (B * 2066 + 2064) (by omega)
      rw [blkV_next] at r1
      obtain ⟨z, hz⟩ : ∃ z, z = c.nx B := ⟨_, rfl⟩
      rw [← hz] at r1 hnx
      have b0 : (0 : Int) ≤ B := by omega
      have b1 : (B : Int) < c.n := by omega
      have hne : ((q : Int) != z) = true := by simpa using hnx
      clear hz hCh hI1 hI2 hR hP hC hP0 ha ho hon hon' hon2 hx hL hbl hp0 hp8
      go_enter Try.func13, Try.ntmps13
      go_upto_region 1 with fail
      rw [← hW]
      clear hW
      go_wp2_with (go_at_call 37; refine HM.out.mono ?_; rintro e w2 ⟨rfl, rfl⟩)
      go_ret
      exact ⟨rfl, HF.out⟩
  · have e1 : ¬ progOn P c b p := fun h => hon (by rw [hx]; exact h.1)
    unfold progE progP progC
    rw [if_neg e1, if_neg e1, if_pos (by rw [← hx]; exact hon), ← hx]
    clear e1
    obtain ⟨L, hL⟩ : ∃ L, L = pgL D := ⟨_, rfl⟩
    rw [← hL]
    obtain ⟨W, hW⟩ : ∃ W, W = w.alloc (.cells L.toArray 34) := ⟨_, rfl⟩
    have hbl : Below w.heap.size w W := by rw [hW]; exact (Below.refl _ _).alloc (Nat.le_refl _) _
    have hP0 := hP.below hbl
    have hC0 := hC.below hbl
    have HF := Lib.hid (⟨hP0, hC0, Chg.ofBelow hbl⟩ : PwW W pb P ∧ ChW W S pb cb rb c ∧ Chg [pb, cb, rb] w W)
    obtain ⟨v1, v2, hCh, hI1, hI2, hR⟩ := hC0
    have HM := Lib.hid (may_any cb pb _ c.n c.n c.dead c.out v1 c.pc v2 c.wc c.cnt P.off P.aft P.keep b p W hCh hP0)
    have hx2 : x = mayI P.off (!c.dead && !c.out) c.n b p := hx
    rw [← hx2] at HM
    have hne : (x != 0) = true := by simpa using hon
    clear hx hx2 hCh hI1 hI2 hR hP hC hP0 ha ho hL hbl
    go_enter Try.func13, Try.ntmps13
    go_upto_region 1 with fail
    rw [← hW]
    clear hW
    go_wp2_with (go_at_call 37; refine HM.out.mono ?_; rintro e w2 ⟨rfl, rfl⟩)
    go_ret
    exact ⟨rfl, HF.out⟩
end Go.Proofs.YtofjabejkcicjaaK

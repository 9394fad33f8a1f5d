import Derived.Test.YtofjabejkcicjaaKChp
import Derived.Deep.DeepCutAuto
namespace Go.Proofs.YtofjabejkcicjaaK
open Go.RowKit
set_option linter.unusedSimpArgs false
set_option linter.unusedVariables false
/-! Chip.Read. -/
def readD (P : Pw) (c : Ch) (b p : Int) : Nat → UInt8 := if mayC P c b p = 0 then c.M b.toNat p.toNat else fun _ => 0
set_option maxRecDepth 100000 in
set_option maxHeartbeats 8000000 in
theorem read_any (S : List Nat) (pb cb rb : Nat) (P : Pw) (c : Ch) (b p : Int) (w : World) (hP : PwW w pb P) (hC : ChW w S pb cb rb c) :
    Calls Try.prog 21 #[.pointer (some ⟨cb, 0, none⟩), .int .i64 b, .int .i64 p] w fun e w' =>
      e = .returned (.tuple #[.agg (pgL (readD P c b p)).toArray, .int .i64 (mayC P c b p)]) ∧ Below w.heap.size w w' := by
  obtain ⟨Z, hZ⟩ : ∃ Z : List Value, Z = pgL (fun _ => 0) := ⟨_, rfl⟩
  have hz := page_zero
  rw [← hZ] at hz
  have hZl : Z.length = 258 := by rw [hZ]; exact pgL_len _
  have H1Z := Lib.hid (show Z.toArray.all (·.oneCell') = true by rw [hZ]; exact pgL_one _)
  have HZZ := Lib.hid (show Z.toArray.size = Z.length by simp)
  have HIZ := Lib.hid (show (Try.prog.info? 34).map (·.size) = some Z.toArray.size by rw [List.size_toArray, hZl]; exact page_info)
  have HIZL := Lib.hid (show (Try.prog.info? 34).map (·.size) = some Z.length by rw [hZl]; exact page_info)
  obtain ⟨W, hW⟩ : ∃ W, W = w.alloc (.cells Z.toArray 34) := ⟨_, rfl⟩
  obtain ⟨ob, hob⟩ : ∃ ob, ob = w.heap.size := ⟨_, rfl⟩
  have hbl : Below w.heap.size w W := by rw [hW]; exact (Below.refl _ _).alloc (Nat.le_refl _) _
  have hAo : Arr W ob Z := by rw [hW, hob]; exact arr_newL w Z 34
  have hP0 := hP.below hbl
  have hC0 := hC.below hbl
  have hge : w.heap.size ≤ ob := by omega
  obtain ⟨v1, v2, hCh, hI1, hI2, hR⟩ := hC0
  have HM := Lib.hid (may_any cb pb _ c.n c.n c.dead c.out v1 c.pc v2 c.wc c.cnt P.off P.aft P.keep b p W hCh hP0)
  obtain ⟨x, hx⟩ : ∃ x, x = mayC P c b p := ⟨_, rfl⟩
  have hx2 : x = mayI P.off (!c.dead && !c.out) c.n b p := hx
  rw [← hx2] at HM
  unfold readD
  rw [← hx]
  have k1 : W.cell? ⟨cb, 1, none⟩ = some (.slice (some ⟨rb, 0, none⟩) c.n c.n) := cellP hCh 1
  by_cases hon : x = 0
  · obtain ⟨_, _, _, hb0, hb1, hp0, hp8⟩ := mayC_zero (hx ▸ hon : mayC P c b p = 0)
    rw [if_pos hon]
    obtain ⟨B, rfl⟩ : ∃ B : Nat, b = B := ⟨b.toNat, by omega⟩
    obtain ⟨q, rfl⟩ : ∃ q : Nat, p = q := ⟨p.toNat, by omega⟩
    rw [Int.toNat_natCast, Int.toNat_natCast]
    obtain ⟨L, hL⟩ : ∃ L, L = pgL (c.M B q) := ⟨_, rfl⟩
    rw [← hL]
    have hLl : L.length = 258 := by rw [hL]; exact pgL_len _
    have hrg : W.rangeAt rb (B * 2066 + q * 258) L := hR.range _ L (by rw [hLl]; omega) (fun k hk => by
      rw [hLl] at hk
      rw [hL, pgL_at _ k hk, show B * 2066 + q * 258 + k = B * 2066 + (258 * q + k) from by omega, blkV_at _ _ _ B q k (by omega) hk])
    have HI := Lib.hid (show (Try.prog.info? 34).map (·.size) = some L.length by rw [hLl]; exact page_info)
    have HIA := Lib.hid (show (Try.prog.info? 34).map (·.size) = some L.toArray.size by rw [List.size_toArray, hLl]; exact page_info)
    have H1A := Lib.hid (show L.toArray.all (·.oneCell') = true by rw [hL]; exact pgL_one _)
    have HLZ := Lib.hid (show L.toArray.size = Z.length by simp [hLl, hZl])
    have b0 : (0 : Int) ≤ B := by omega
    have b1 : (B : Int) < c.n := by omega
    have q0 : (0 : Int) ≤ q := by omega
    have q8 : (q : Int) < 8 := by omega
    have hne : (x != 0) = false := by rw [hon]; rfl
    have HON := Lib.hid hon
    clear hx hx2 hZ hZl hL hLl hCh hI1 hI2 hR hP hC hP0 hb0 hb1 hp0 hp8 hon
    go_enter Try.func21, Try.ntmps21
    go_upto_region 1 with fail
    rw [← hW]
    simp only [← hob]
    clear hW hob hz
    go_wp2_with (first
      | (go_at_call 37; refine HM.out.mono ?_; rintro e w2 ⟨rfl, rfl⟩)
      | (refine wpList_load_mid rfl 34 _ rfl rb (B * 2066 + q * 258) rfl L _ hrg Try.underlying34 rfl HI.out ?_)
      | (refine wp_load_mid 34 _ rfl rb (B * 2066 + q * 258) rfl L _ hrg Try.underlying34 rfl HI.out ?_)
      | (refine wpList_store_mid rfl 34 _ _ rfl ob 0 L.toArray rfl rfl (hAo.thereA HLZ.out) HIA.out H1A.out ?_))
    exact bodyPost_row2 rfl rfl rfl rfl (hAo.setA_same HLZ.out) Try.underlying34 rfl (by simpa using HI.out) ⟨by simp [HON.out], below_setCells hge _ _ hbl⟩
  · rw [if_neg hon, ← hZ]
    have hne : (x != 0) = true := by simpa using hon
    clear hx hx2 hZ hZl hCh hI1 hI2 hR hP hC hP0 k1
    go_enter Try.func21, Try.ntmps21
    go_upto_region 1 with fail
    rw [← hW]
    simp only [← hob]
    clear hW hob
    go_wp2_with (first
      | (go_at_call 37; refine HM.out.mono ?_; rintro e w2 ⟨rfl, rfl⟩)
      | (refine wpList_store_mid rfl 34 _ _ rfl ob 0 Z.toArray rfl rfl (hAo.thereA HZZ.out) HIZ.out H1Z.out ?_))
    exact bodyPost_row2 rfl rfl rfl rfl (hAo.setA_same HZZ.out) Try.underlying34 rfl (by simpa using HIZL.out) ⟨by simp, below_setCells hge _ _ hbl⟩
end Go.Proofs.YtofjabejkcicjaaK

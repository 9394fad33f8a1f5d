import Derived.Test.YtofjabejkcicjaaKBlk
import Derived.Deep.DeepCutAuto
namespace Go.Proofs.YtofjabejkcicjaaK
open Go.RowKit
set_option linter.unusedSimpArgs false
set_option linter.unusedVariables false
/-! The law's page of a byte. -/
def pgF (b : UInt8) (i : Nat) : UInt8 := b + UInt8.ofNat (i * b.toNat)
theorem pgF_toNat (b : UInt8) (i : Nat) : (pgF b i).toNat = (b.toNat + i * b.toNat) % 256 := by
  unfold pgF
  rw [UInt8.toNat_add, UInt8.toNat_ofNat']
  omega
set_option maxRecDepth 100000 in
set_option maxHeartbeats 4000000 in
theorem page_any (b : UInt8) (w : World) : Calls Try.prog 14 #[encB b] w fun e w' => e = .returned (.agg (pgL (pgF b)).toArray) ∧ Below w.heap.size w w' := by
  obtain ⟨Z, hZ⟩ : ∃ Z : List Value, Z = pgL (fun _ => 0) := ⟨_, rfl⟩
  have hz := page_zero
  obtain ⟨L, hL⟩ : ∃ L, L = pgL (pgF b) := ⟨_, rfl⟩
  rw [← hL]
  have hLl : L.length = 258 := by rw [hL]; exact pgL_len _
  have hZl : Z.length = 258 := by rw [hZ]; exact pgL_len _
  have H1A := Lib.hid (show L.toArray.all (·.oneCell') = true by rw [hL]; exact pgL_one _)
  have H1Z := Lib.hid (show Z.toArray.all (·.oneCell') = true by rw [hZ]; exact pgL_one _)
  have HZZ := Lib.hid (show L.toArray.size = L.length by simp)
  have HZ9 := Lib.hid (show Z.toArray.size = Z.length by simp)
  have HLZ := Lib.hid (show L.toArray.size = Z.length by simp [hLl, hZl])
  have HLC := Lib.hid (fun k (hk : k < 258) => show L[k]? = some (encB (pgF b k)) by rw [hL]; exact pgL_at _ k hk)
  have HZC := Lib.hid (fun k (hk : k < 258) => show Z[k]? = some (encB 0) by rw [hZ]; exact pgL_at _ k hk)
  rw [← hZ] at hz
  have HI := Lib.hid (show (Try.prog.info? 34).map (·.size) = some L.length by rw [hLl]; exact page_info)
  have HIA := Lib.hid (show (Try.prog.info? 34).map (·.size) = some L.toArray.size by rw [List.size_toArray, hLl]; exact page_info)
  have HIZ := Lib.hid (show (Try.prog.info? 34).map (·.size) = some Z.toArray.size by rw [List.size_toArray, hZl]; exact page_info)
  have HLL := Lib.hid hLl
  have HZL := Lib.hid hZl
  clear hL hLl hZ hZl
  have b8 := b.toNat_lt
  obtain ⟨x, hx⟩ : ∃ x, x = b.toNat := ⟨_, rfl⟩
  have hxe : encB b = .int .u8 (x : Int) := by rw [hx]; rfl
  rw [hxe]
  have HX := Lib.hid hx
  rw [← hx] at b8
  clear hx hxe
  have hA0 : Arr (w.alloc (.cells Z.toArray 34)) w.heap.size Z := arr_newL w Z 34
  have hAo := hA0.alloc (.cells Z.toArray 34)
  have hAa : Arr ((w.alloc (.cells Z.toArray 34)).alloc (.cells Z.toArray 34)) (w.heap.size + 1) Z := by
    have := arr_newL (w.alloc (.cells Z.toArray 34)) Z 34
    simpa using this
  have hB0 : Below w.heap.size w ((w.alloc (.cells Z.toArray 34)).alloc (.cells Z.toArray 34)) := ((Below.refl _ _).alloc (Nat.le_refl _) _).alloc (by simp) _
  have hTH := Lib.hid (hAa.thereA HZ9.out)
  have hAo2 := hAo.set_other (b' := w.heap.size + 1) (by omega) 0 Z.toArray.toList
  have hAa2 := hAa.setA_same HZ9.out
  have hB2 := below_setCells (show w.heap.size ≤ w.heap.size + 1 by omega) Z.toArray.toList 0 hB0
  obtain ⟨W, hW⟩ : ∃ W, W = ((w.alloc (.cells Z.toArray 34)).alloc (.cells Z.toArray 34)).setCells (w.heap.size + 1) 0 Z.toArray.toList := ⟨_, rfl⟩
  rw [← hW] at hAo2 hAa2 hB2
  obtain ⟨ob, hob⟩ : ∃ ob, ob = w.heap.size := ⟨_, rfl⟩
  have hge : w.heap.size ≤ ob := by omega
  rw [← hob] at hAo2 hAa2
  have hR : Row W (ob + 1) 258 (fun j => if j < 0 then encB (pgF b j) else encB 0) := by
    have := arr_toRow hAa2 (fun j => if j < 0 then encB (pgF b j) else encB 0) (fun k hk => by
      rw [List.toList_toArray, HZL.out] at hk
      rw [List.toList_toArray, HZC.out k hk, if_neg (by omega)])
    rwa [List.toList_toArray, HZL.out] at this
  have HAO := Lib.hid hAo2
  have HR := Lib.hid hR
  have HB := Lib.hid hB2
  have HW := Lib.hid hW
  have HOB := Lib.hid hob
  have HGE := Lib.hid hge
  clear hA0 hAo hAa hB0 hAo2 hAa2 hB2 hR hge hW
  go_enter Try.func14, Try.ntmps14
  go_upto_region 1 with fail
  go_upto_region 2 with (first
    | (refine wpList_store_mid rfl 34 _ _ rfl (w.heap.size + 1) 0 Z.toArray rfl rfl hTH.out HIZ.out H1Z.out ?_)
    | (refine wp_store_mid 34 _ _ rfl (w.heap.size + 1) 0 Z.toArray rfl rfl hTH.out HIZ.out H1Z.out ?_))
  rw [← HW.out]
  simp only [← hob]
  clear hob hz hTH HW
  go_wp2_with fail
  go_loopw [4, 6] (fun v4 v6 wr => ∃ k : Nat, k ≤ 258 ∧ v6 = .int .i64 k ∧ Below w.heap.size w wr ∧ Arr wr ob Z ∧ Row wr (ob + 1) 258 (fun j => if j < k then encB (pgF b j) else encB 0)) (fun _ v6 _ => 258 - (intOf v6).toNat)
  case atStart => exact ⟨0, by omega, rfl, HB.out, HAO.out, HR.out⟩
  case round =>
    obtain ⟨k, hk, rfl, hb, hA, hR1⟩ := hrel
    by_cases hlt : k < 258
    · have hk1 : (k : Int) < 258 := by omega
      have hk0 : (0 : Int) ≤ k := by omega
      have hf := hR1.fr k hlt
      have hc := hR1.at k hlt
      have HR1 := Lib.hid hR1
      rw [if_neg (by omega)] at hc
      obtain ⟨y, hy⟩ : ∃ y, y = k * x := ⟨_, rfl⟩
      have hyi : (k : Int) * (x : Int) = (y : Int) := by rw [hy]; push_cast; rfl
      have hyl : y ≤ 258 * 256 := by rw [hy]; exact Nat.mul_le_mul (by omega) (by omega)
      have hw1 : IntKind.i64.wrap (y : Int) = (y : Int) := by rw [IntKind.wrap_i64]; omega
      obtain ⟨u, hu⟩ : ∃ u, u = y % 256 := ⟨_, rfl⟩
      have hw2 : IntKind.u8.wrap (y : Int) = (u : Int) := by rw [IntKind.wrap_u8, hu]; omega
      obtain ⟨v, hv⟩ : ∃ v, v = (x + u) % 256 := ⟨_, rfl⟩
      have hw3 : IntKind.u8.wrap ((x : Int) + (u : Int)) = (v : Int) := by rw [IntKind.wrap_u8, hv]; omega
      have hv2 : (pgF b k).toNat = v := by rw [pgF_toNat, ← HX.out, hv, hu, hy]; omega
      have HV := Lib.hid hv2
      have HB1 := Lib.hid hb
      have HA1 := Lib.hid hA
      clear hv2 hv hu hy hR1 hb hA
      go_wp2_with fail
      go_roundw
      case rel =>
        refine ⟨k + 1, by omega, by go_num, HB1.out.setCell (p := ⟨ob + 1, k, none⟩) (by have := HGE.out; show _ ≤ ob + 1; omega) _, HA1.out.set_one (by omega) k _, ((HR1.out.set k (.int .u8 (v : Int))).congr fun j hj => ?_)⟩
        by_cases e : j = k
        · rw [if_pos e, if_pos (by omega), e]
          unfold encB
          rw [HV.out]
        · rw [if_neg e]
          by_cases e2 : j < k
          · rw [if_pos e2, if_pos (by omega)]
          · rw [if_neg e2, if_neg (by omega)]
      case measure => simp [intOf]; omega
    · obtain rfl : k = 258 := by omega
      have hAL : Arr wr (ob + 1) L := hR1.arr _ HLL.out (fun k hk => by rw [HLC.out k hk, if_pos hk])
      clear hR1
      go_wp2_with (first
        | (refine wpList_load_mid rfl 34 _ rfl (ob + 1) 0 rfl L _ hAL.1 Try.underlying34 rfl HI.out ?_)
        | (refine wp_load_mid 34 _ rfl (ob + 1) 0 rfl L _ hAL.1 Try.underlying34 rfl HI.out ?_)
        | (refine wpList_store_mid rfl 34 _ _ rfl ob 0 L.toArray rfl rfl (hA.thereA HLZ.out) HIA.out H1A.out ?_))
      exact bodyPost_row rfl rfl rfl (hA.setA_same HLZ.out) Try.underlying34 rfl (by simpa using HI.out) ⟨by simp, below_setCells HGE.out _ 0 hb⟩
end Go.Proofs.YtofjabejkcicjaaK

import Derived.Test.YtofjabejkcicjaaKAct
namespace Go.Proofs.YtofjabejkcicjaaK
open Go.RowKit
set_option linter.unusedSimpArgs false
set_option linter.unusedVariables false
/-! A page by a function; blank. -/
def pgL (g : Nat → UInt8) : List Value := (List.range 258).map (fun i => encB (g i))
theorem pgL_len (g : Nat → UInt8) : (pgL g).length = 258 := by unfold pgL; rw [List.length_map, List.length_range]
theorem pgL_at (g : Nat → UInt8) (k : Nat) (hk : k < 258) : (pgL g)[k]? = some (encB (g k)) := by
  unfold pgL
  rw [List.getElem?_map, List.getElem?_range hk]; rfl
theorem pgL_get (g : Nat → UInt8) (k : Nat) (hk : k < 258) : (pgL g).getD k default = encB (g k) := by
  rw [List.getD_eq_getElem?_getD, pgL_at g k hk]; rfl
theorem pgL_one (g : Nat → UInt8) : (pgL g).toArray.all (·.oneCell') = true := by
  rw [List.all_toArray, List.all_eq_true]
  intro v hv
  obtain ⟨i, _, rfl⟩ := List.mem_map.1 hv
  rfl
theorem pgL_congr {g g' : Nat → UInt8} (h : ∀ k, k < 258 → g k = g' k) : pgL g = pgL g' := by
  unfold pgL
  refine List.map_congr_left fun i hi => ?_
  rw [h i (List.mem_range.1 hi)]
theorem encB_inj {a b : UInt8} (h : encB a = encB b) : a = b := by
  unfold encB at h
  injection h with _ h
  exact UInt8.toNat_inj.1 (by omega)
theorem pgL_inj {g g' : Nat → UInt8} (h : pgL g = pgL g') (k : Nat) (hk : k < 258) : g k = g' k := by
  have h1 := pgL_at g k hk
  rw [h, pgL_at g' k hk] at h1
  injection h1 with h1
  exact encB_inj h1.symm
theorem Row.arr {w : World} {b : Nat} {N : Nat} {f : Nat → Value} (h : Row w b N f) (L : List Value) (hl : L.length = N) (hL : ∀ k, k < N → L[k]? = some (f k)) : Arr w b L :=
  ⟨h.range 0 L (by omega) (fun k hk => by rw [Nat.zero_add]; exact hL k (by omega)), hl ▸ h.there 0 L.length (by omega), h.1⟩
theorem arr_toRow {w : World} {b : Nat} {L : List Value} (h : Arr w b L) (f : Nat → Value) (hL : ∀ k, k < L.length → L[k]? = some (f k)) : Row w b L.length f := by
  refine ⟨h.2.2, fun j hj => ⟨h.at_ j _ (hL j hj), ?_⟩⟩
  have := (h.2.1 j hj).2
  rwa [Nat.zero_add] at this
theorem page_info : (Try.prog.info? 34).map (·.size) = some 258 := by kernel_rfl
theorem page_zero : ∀ w, (zeroValue 34).run Try.prog w = .ok (.agg (pgL (fun _ => 0)).toArray) w :=
  (zero_of_info (P := Try.prog) (t := 34) (v := .agg (pgL (fun _ => 0)).toArray) (n := 258) (by kernel_rfl)).1
set_option maxRecDepth 100000 in
set_option maxHeartbeats 4000000 in
theorem blank_any (w : World) : Calls Try.prog 54 #[] w fun e w' => e = .returned (.agg (pgL (fun _ => 255)).toArray) ∧ Below w.heap.size w w' := by
  obtain ⟨Z, hZ⟩ : ∃ Z : List Value, Z = pgL (fun _ => 0) := ⟨_, rfl⟩
  have hz := page_zero
  obtain ⟨L, hL⟩ : ∃ L, L = pgL (fun _ => 255) := ⟨_, rfl⟩
  rw [← hL]
  have hLl : L.length = 258 := by rw [hL]; exact pgL_len _
  have H1A := Lib.hid (show L.toArray.all (·.oneCell') = true by rw [hL]; exact pgL_one _)
  have HZZ := Lib.hid (show L.toArray.size = L.length by simp)
  have HLC := Lib.hid (fun k (hk : k < 258) => show L[k]? = some (encB 255) by rw [hL]; exact pgL_at _ k hk)
  rw [← hZ] at hz
  have HI := Lib.hid (show (Try.prog.info? 34).map (·.size) = some L.length by rw [hLl]; exact page_info)
  have HIA := Lib.hid (show (Try.prog.info? 34).map (·.size) = some L.toArray.size by rw [List.size_toArray, hLl]; exact page_info)
  have HLL := Lib.hid hLl
  clear hL hLl
  obtain ⟨W, hW⟩ : ∃ W, W = w.alloc (.cells Z.toArray 34) := ⟨_, rfl⟩
  obtain ⟨xb, hxb⟩ : ∃ xb, xb = w.heap.size := ⟨_, rfl⟩
  have hR : Row W xb 258 (fun j => if j < 0 then encB 255 else encB 0) := by
    rw [hW, hxb]
    have := arr_toRow (arr_newL w Z 34) (fun j => if j < 0 then encB 255 else encB 0) (by
      intro k hk
      rw [hZ, pgL_len] at hk
      rw [hZ, pgL_at _ k hk, if_neg (by omega)])
    rwa [hZ, pgL_len, ← hZ] at this
  have hbb : Below w.heap.size w W := by rw [hW]; exact (Below.refl _ _).alloc (Nat.le_refl _) _
  clear hZ
  go_enter Try.func54, Try.ntmps54
  go_wp2_with fail
  rw [← hW]
  simp only [← hxb]
  have hx9 : w.heap.size ≤ xb := by omega
  have HX := Lib.hid hx9
  clear hW hxb hx9 hz
  go_loopw [2] (fun v2 wr => ∃ k : Nat, k ≤ 258 ∧ v2 = .int .i64 k ∧ Below w.heap.size w wr ∧ Row wr xb 258 (fun j => if j < k then encB 255 else encB 0)) (fun v2 _ => 258 - (intOf v2).toNat)
  case atStart => exact ⟨0, by omega, rfl, hbb, hR⟩
  case round =>
    obtain ⟨k, hk, rfl, hb, hR1⟩ := hrel
    clear hbb hR
    by_cases hlt : k < 258
    · have hk1 : (k : Int) < 258 := by omega
      have hk0 : (0 : Int) ≤ k := by omega
      have hf := hR1.fr k hlt
      have hc := hR1.at k hlt
      have HR1 := Lib.hid hR1
      rw [if_neg (by omega)] at hc
      clear hR1
      go_wp2_with fail
      go_roundw
      case rel =>
        refine ⟨k + 1, by omega, by go_num, hb.setCell (p := ⟨xb, k, none⟩) HX.out _, ((HR1.out.set k (.int .u8 255)).congr fun j hj => ?_)⟩
        by_cases e : j = k
        · rw [if_pos e, if_pos (by omega)]; rfl
        · rw [if_neg e]
          by_cases e2 : j < k
          · rw [if_pos e2, if_pos (by omega)]
          · rw [if_neg e2, if_neg (by omega)]
      case measure => simp [intOf]; omega
    · obtain rfl : k = 258 := by omega
      have hA : Arr wr xb L := hR1.arr _ HLL.out (fun k hk => by rw [HLC.out k hk, if_pos hk])
      clear hR1
      go_wp2_with (first
        | (refine wpList_load_mid rfl 34 _ rfl xb 0 rfl L _ hA.1 Try.underlying34 rfl HI.out ?_)
        | (refine wp_load_mid 34 _ rfl xb 0 rfl L _ hA.1 Try.underlying34 rfl HI.out ?_)
        | (refine wpList_store_mid rfl 34 _ _ rfl xb 0 L.toArray rfl rfl (hA.thereA HZZ.out) HIA.out H1A.out ?_))
      exact bodyPost_row rfl rfl rfl (hA.setA_same HZZ.out) Try.underlying34 rfl (by simpa using HI.out) ⟨by simp, below_setCells HX.out _ 0 hb⟩
end Go.Proofs.YtofjabejkcicjaaK

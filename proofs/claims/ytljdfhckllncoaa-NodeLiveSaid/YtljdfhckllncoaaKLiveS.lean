import Derived.Test.YtljdfhckllncoaaKLive
import Derived.StillTailTactics
import Derived.Deep.QuietTactic
import Derived.BigQuiet
import Derived.Deep.WholeRow
import Derived.Deep.DeepCutAuto
import Derived.Laws.ResultCell
namespace Go.Proofs.YtljdfhckllncoaaK
open Go.RowKit
set_option linter.unusedSimpArgs false
set_option linter.unusedVariables false
set_option maxRecDepth 100000 in
set_option maxHeartbeats 4000000 in
theorem rset_same (ls : List UInt8) (hl : ls.length = 32) (k : Int) (b : Bool) (h : keyOK k = false ∨ hasK ls k = b) (w : World) :
    Calls Try.prog 26 #[.agg (ls.map encB).toArray, .int .i64 k, .bool b] w fun e w' => e = .returned (.agg (ls.map encB).toArray) ∧ Below w.heap.size w w' := by
  have hi0 : (Try.prog.info? 47).map (·.size) = some 32 := by kernel_rfl
  have HH := Lib.hid (fun W => rhas_any ls hl k W)
  obtain ⟨L, hL⟩ : ∃ L, L = ls.map encB := ⟨_, rfl⟩
  rw [← hL] at HH ⊢
  have hLl : L.length = 32 := by rw [hL]; simp [hl]
  have h1L : ∀ v ∈ L, v.oneCell' = true := by rw [hL]; exact encB_all _
  have HI := Lib.hid (show (Try.prog.info? 47).map (·.size) = some L.length by rw [hLl]; exact hi0)
  have HIA := Lib.hid (show (Try.prog.info? 47).map (·.size) = some L.toArray.size by rw [List.size_toArray, hLl]; exact hi0)
  have H1A : Hid (L.toArray.all (·.oneCell') = true) := Lib.hid (all_oneCell_toArray h1L)
  obtain ⟨Z, hZ⟩ : ∃ Z : Array Value, Z = Array.replicate 32 (.int .u8 0) := ⟨_, rfl⟩
  have hZs : Z.size = 32 := by rw [hZ]; simp
  have hz : ∀ w, (zeroValue 47).run Try.prog w = .ok (.agg Z) w := by rw [hZ]; exact (zero_of_info (P := Try.prog) (t := 47) (v := .agg (Array.replicate 32 (.int .u8 0))) (n := 32) (by kernel_rfl)).1
  have HZ : Hid (L.toArray.size = Z.toList.length) := Lib.hid (by simp [hLl, hZs])
  obtain ⟨hv, hhv⟩ : ∃ c, c = hasK ls k := ⟨_, rfl⟩
  rw [← hhv] at HH h
  have hA1 : Arr (w.alloc (.cells L.toArray 47)) w.heap.size L := arr_newL w L _
  have hA2 := hA1.alloc (.cells Z 47)
  have hR2 := arr_new (w.alloc (.cells L.toArray 47)) Z 47
  have hB2 : Below w.heap.size w ((w.alloc (.cells L.toArray 47)).alloc (.cells Z 47)) := ((Below.refl _ _).alloc (Nat.le_refl _) _).alloc (by simp) _
  clear hi0 hL hLl h1L hZ hZs hhv hl
  rw [World.size_alloc] at hR2
  by_cases h0 : k < 0
  · clear h
    go_enter Try.func26, Try.ntmps26
    go_wp2_with (first
      | (refine wpList_load_mid rfl 47 _ rfl w.heap.size 0 rfl L _ hA2.1 Try.underlying47 rfl HI.out ?_)
      | (refine wp_load_mid 47 _ rfl w.heap.size 0 rfl L _ hA2.1 Try.underlying47 rfl HI.out ?_)
      | (refine wpList_store_mid rfl 47 _ _ rfl (w.heap.size + 1) 0 L.toArray rfl rfl (hR2.thereA HZ.out) HIA.out H1A.out ?_))
    refine bodyPost_row rfl rfl rfl (hR2.setA_same HZ.out) Try.underlying47 rfl HIA.out ⟨by simp, below_setCells (by omega) _ _ hB2⟩
  by_cases h9 : 255 < k
  · clear h
    go_enter Try.func26, Try.ntmps26
    go_wp2_with (first
      | (refine wpList_load_mid rfl 47 _ rfl w.heap.size 0 rfl L _ hA2.1 Try.underlying47 rfl HI.out ?_)
      | (refine wp_load_mid 47 _ rfl w.heap.size 0 rfl L _ hA2.1 Try.underlying47 rfl HI.out ?_)
      | (refine wpList_store_mid rfl 47 _ _ rfl (w.heap.size + 1) 0 L.toArray rfl rfl (hR2.thereA HZ.out) HIA.out H1A.out ?_))
    refine bodyPost_row rfl rfl rfl (hR2.setA_same HZ.out) Try.underlying47 rfl HIA.out ⟨by simp, below_setCells (by omega) _ _ hB2⟩
  have hk : keyOK k = true := (keyOK_iff k).2 ⟨by omega, by omega⟩
  have hb : hv = b := by
    rcases h with h | h
    · rw [hk] at h; cases h
    · exact h
  clear h hk
  subst hb
  go_enter Try.func26, Try.ntmps26
  go_upto_region 1 with fail
  obtain ⟨W2, hW2⟩ : ∃ W2, W2 = (w.alloc (.cells L.toArray 47)).alloc (.cells Z 47) := ⟨_, rfl⟩
  rw [← hW2] at hA2 hR2 hB2 ⊢
  clear hW2 hA1
  obtain ⟨xb, hxb⟩ : ∃ xb, xb = w.heap.size := ⟨_, rfl⟩
  obtain ⟨rb, hrb⟩ : ∃ rb, rb = w.heap.size + 1 := ⟨_, rfl⟩
  have hge : w.heap.size ≤ rb := by omega
  rw [← hrb] at hR2
  rw [← hxb] at hA2 hrb
  simp only [← hxb]
  simp only [← hrb]
  clear hrb hxb
  go_wp2_with (first
    | (refine wpList_load_g rfl 47 _ rfl xb 0 rfl L _ hA2.1 Try.underlying47 rfl HI.out ?_)
    | (go_at_call 29; refine (HH.out _).mono ?_; rintro e w1 ⟨rfl, hb1⟩; have hA1 := hA2.below hb1; have hR1 := hR2.below hb1; have hB1 := hB2.trans (hb1.mono hB2.size))
    | (refine wpList_load_mid rfl 47 _ rfl xb 0 rfl L _ hA1.1 Try.underlying47 rfl HI.out ?_)
    | (refine wp_load_mid 47 _ rfl xb 0 rfl L _ hA1.1 Try.underlying47 rfl HI.out ?_)
    | (refine wpList_store_mid rfl 47 _ _ rfl rb 0 L.toArray rfl rfl (hR1.thereA HZ.out) HIA.out H1A.out ?_))
  refine bodyPost_row rfl rfl rfl (hR1.setA_same HZ.out) Try.underlying47 rfl HIA.out ⟨by simp, below_setCells hge _ _ hB1⟩
set_option maxRecDepth 100000 in
set_option maxHeartbeats 4000000 in
theorem rset_turn (ls : List UInt8) (hl : ls.length = 32) (n : Nat) (hn : (n : Int) < 256) (b : Bool) (h : hasK ls n ≠ b) (w : World) :
    Calls Try.prog 26 #[.agg (ls.map encB).toArray, .int .i64 (n : Int), .bool b] w fun e w' => e = .returned (.agg ((setK ls n b).map encB).toArray) ∧ Below w.heap.size w w' := by
  have hi0 : (Try.prog.info? 47).map (·.size) = some 32 := by kernel_rfl
  have HH := Lib.hid (fun W => rhas_any ls hl n W)
  have hT := setK_turn ls hl n hn b h
  have hsl : (setK ls n b).length = 32 := by rw [setK_len]; exact hl
  have hqc := encB_cell ls (n / 8) (by omega)
  have hxl : byteAt ls n < 256 := (ls.getD _ 0).toNat_lt
  have hx0 : (ls.getD (n / 8) 0).toNat = byteAt ls n := rfl
  rw [hx0] at hqc
  obtain ⟨x, hx2⟩ : ∃ x, x = byteAt ls n := ⟨_, rfl⟩
  rw [← hx2] at hqc hxl hT
  obtain ⟨q, hq⟩ : ∃ q, q = n / 8 := ⟨_, rfl⟩
  obtain ⟨r, hr⟩ : ∃ r, r = n % 8 := ⟨_, rfl⟩
  rw [← hr, ← hq] at hT
  rw [← hq] at hqc
  have x5 : (n : Int) / 8 = (q : Int) := by omega
  have x6 : (n : Int) % 8 = (r : Int) := by omega
  have hq9 : (q : Int) < 32 := by omega
  have hq0 : (0 : Int) ≤ q := by omega
  have hr9 : (r : Int) < 8 := by omega
  have hr0 : (0 : Int) ≤ r := by omega
  have hx00 : (0 : Int) ≤ x := by omega
  have hx9 : (x : Int) < 256 := by omega
  obtain ⟨L, hL⟩ : ∃ L, L = ls.map encB := ⟨_, rfl⟩
  obtain ⟨M, hM⟩ : ∃ L, L = (setK ls n b).map encB := ⟨_, rfl⟩
  rw [← hL] at HH hqc hT ⊢
  rw [← hM] at hT ⊢
  have hLl : L.length = 32 := by rw [hL]; simp [hl]
  have hMl : M.length = 32 := by rw [hM]; simp [hsl]
  have h1M : ∀ v ∈ M, v.oneCell' = true := by rw [hM]; exact encB_all _
  have HI := Lib.hid (show (Try.prog.info? 47).map (·.size) = some L.length by rw [hLl]; exact hi0)
  have HIM := Lib.hid (show (Try.prog.info? 47).map (·.size) = some M.length by rw [hMl]; exact hi0)
  have HIA := Lib.hid (show (Try.prog.info? 47).map (·.size) = some M.toArray.size by rw [List.size_toArray, hMl]; exact hi0)
  have H1A : Hid (M.toArray.all (·.oneCell') = true) := Lib.hid (all_oneCell_toArray h1M)
  obtain ⟨Z, hZ⟩ : ∃ Z : Array Value, Z = Array.replicate 32 (.int .u8 0) := ⟨_, rfl⟩
  have hZs : Z.size = 32 := by rw [hZ]; simp
  have hz : ∀ w, (zeroValue 47).run Try.prog w = .ok (.agg Z) w := by rw [hZ]; exact (zero_of_info (P := Try.prog) (t := 47) (v := .agg (Array.replicate 32 (.int .u8 0))) (n := 32) (by kernel_rfl)).1
  have HZ : Hid (M.toArray.size = Z.toList.length) := Lib.hid (by simp [hMl, hZs])
  obtain ⟨hv, hhv⟩ : ∃ c, c = hasK ls n := ⟨_, rfl⟩
  rw [← hhv] at HH h
  have hA1 : Arr (w.alloc (.cells L.toArray 47)) w.heap.size L := arr_newL w L _
  have hA2 := hA1.alloc (.cells Z 47)
  have hR2 := arr_new (w.alloc (.cells L.toArray 47)) Z 47
  have hB2 : Below w.heap.size w ((w.alloc (.cells L.toArray 47)).alloc (.cells Z 47)) := ((Below.refl _ _).alloc (Nat.le_refl _) _).alloc (by simp) _
  have hT2 : L.set q (.int .u8 (bits .xor .u8 (x : Int) ((2 : Int) ^ r % 256))) = M := by
    rw [List.setIfInBounds_toArray] at hT
    have := congrArg Array.toList hT
    simpa using this
  have HT := Lib.hid hT2
  clear hi0 hL hM hLl hMl h1M hZ hZs hhv hl hT hT2 hx2 hq hr hsl hx0
  rw [World.size_alloc] at hR2
  have d1 : decide ((n : Int) < 0) = false := by simp
  have d2 : decide (255 < (n : Int)) = false := by simp; omega
  have d3 : ¬ ((n : Int) < 0) := by omega
  have d4 : ¬ (255 < (n : Int)) := by omega
  have hne : hv = !b := by cases hv <;> cases b <;> simp_all
  subst hne
  clear h
  go_enter Try.func26, Try.ntmps26
  go_upto_region 1 with fail
  obtain ⟨W2, hW2⟩ : ∃ W2, W2 = (w.alloc (.cells L.toArray 47)).alloc (.cells Z 47) := ⟨_, rfl⟩
  rw [← hW2] at hA2 hR2 hB2 ⊢
  clear hW2 hA1
  obtain ⟨xb, hxb⟩ : ∃ xb, xb = w.heap.size := ⟨_, rfl⟩
  obtain ⟨rb, hrb⟩ : ∃ rb, rb = w.heap.size + 1 := ⟨_, rfl⟩
  have hge : w.heap.size ≤ rb := by omega
  have hge2 : w.heap.size ≤ xb := by omega
  have hne : xb ≠ rb := by omega
  rw [← hrb] at hR2
  rw [← hxb] at hA2 hrb
  simp only [← hxb]
  simp only [← hrb]
  have HNE := Lib.hid hne
  clear hrb hxb hne
  cases b
  all_goals
    go_wp2_with (first
      | (refine wpList_load_g rfl 47 _ rfl xb 0 rfl L _ hA2.1 Try.underlying47 rfl HI.out ?_)
      | (go_at_call 29; refine (HH.out _).mono ?_; rintro e w1 ⟨rfl, hb1⟩; have hA1 := hA2.below hb1; have hR1 := hR2.below hb1; have hB1 := hB2.trans (hb1.mono hB2.size); have hc1 := hA1.at_ q _ hqc; have hf1 := (hA1.2.1 q (List.getElem?_eq_some_iff.1 hqc).1).2; rw [Nat.zero_add] at hf1; have hA3 := hA1.set_cell q (.int .u8 (bits .xor .u8 (x : Int) ((2 : Int) ^ r % 256))); rw [HT.out] at hA3; have hR3 := hR1.set_one HNE.out q (.int .u8 (bits .xor .u8 (x : Int) ((2 : Int) ^ r % 256))); have hB3 := hB1.setCell (p := ⟨xb, q, none⟩) hge2 (.int .u8 (bits .xor .u8 (x : Int) ((2 : Int) ^ r % 256))))
      | (refine wpList_load_mid rfl 47 _ rfl xb 0 rfl M _ hA3.1 Try.underlying47 rfl HIM.out ?_)
      | (refine wp_load_mid 47 _ rfl xb 0 rfl M _ hA3.1 Try.underlying47 rfl HIM.out ?_)
      | (refine wpList_store_mid rfl 47 _ _ rfl rb 0 M.toArray rfl rfl (hR3.thereA HZ.out) HIA.out H1A.out ?_))
    refine bodyPost_row rfl rfl rfl (hR3.setA_same HZ.out) Try.underlying47 rfl HIA.out ⟨by simp, below_setCells hge _ _ hB3⟩
theorem rset_any (ls : List UInt8) (hl : ls.length = 32) (k : Int) (b : Bool) (w : World) :
    Calls Try.prog 26 #[.agg (ls.map encB).toArray, .int .i64 k, .bool b] w fun e w' => e = .returned (.agg ((setK ls k b).map encB).toArray) ∧ Below w.heap.size w w' := by
  by_cases h : keyOK k = false ∨ hasK ls k = b
  · rw [setK_same ls hl k b h]; exact rset_same ls hl k b h w
  · have hk : keyOK k = true := by cases hh : keyOK k <;> simp_all
    obtain ⟨k0, k1⟩ := (keyOK_iff k).1 hk
    obtain ⟨n, rfl⟩ := Int.eq_ofNat_of_zero_le k0
    exact rset_turn ls hl n k1 b (fun hh => h (.inr hh)) w
end Go.Proofs.YtljdfhckllncoaaK

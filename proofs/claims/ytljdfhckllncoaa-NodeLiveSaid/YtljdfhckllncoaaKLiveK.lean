import Derived.Test.YtljdfhckllncoaaKLiveW
import Derived.Test.YtljdfhckllncoaaKStep
import Derived.Test.YtljdfhckllncoaaKNodeD
namespace Go.Proofs.YtljdfhckllncoaaK
open Go.RowKit
set_option linter.unusedSimpArgs false
set_option linter.unusedVariables false
theorem info_int : (Try.prog.info? 3).map (fun i => (i.zero, i.size, i.bytes)) = some (some (.int .i64 0), 1, 8) := by kernel_rfl
/-- The keys below k. -/
def keysTo (ls : List UInt8) : Nat → List Int
  | 0 => []
  | k + 1 => if hasK ls k = true then keysTo ls k ++ [(k : Int)] else keysTo ls k
theorem keysTo_le (ls : List UInt8) : ∀ k, (keysTo ls k).length ≤ k := by
  intro k
  induction k with
  | zero => exact Nat.le_refl _
  | succ k ih =>
    unfold keysTo
    split
    · simp; omega
    · omega
theorem keysTo_pre (ls : List UInt8) (k : Nat) : ∀ d, ∃ t, keysTo ls (k + d) = keysTo ls k ++ t := by
  intro d
  induction d with
  | zero => exact ⟨[], by simp⟩
  | succ d ih =>
    obtain ⟨t, ht⟩ := ih
    have e : keysTo ls (k + (d + 1)) = if hasK ls ((k + d : Nat) : Int) = true then keysTo ls (k + d) ++ [((k + d : Nat) : Int)] else keysTo ls (k + d) := rfl
    rw [e, ht]
    split
    · exact ⟨t ++ [((k + d : Nat) : Int)], by simp⟩
    · exact ⟨t, rfl⟩
theorem keysTo_get (ls : List UInt8) (k N : Nat) (hk : k < N) (h : hasK ls k = true) : (keysTo ls N)[(keysTo ls k).length]? = some (k : Int) ∧ (keysTo ls k).length < (keysTo ls N).length := by
  obtain ⟨t, ht⟩ := keysTo_pre ls (k + 1) (N - (k + 1))
  rw [show k + 1 + (N - (k + 1)) = N from by omega] at ht
  have e : keysTo ls (k + 1) = keysTo ls k ++ [(k : Int)] := by
    show (if hasK ls k = true then _ else _) = _
    rw [if_pos h]
  rw [ht, e]
  constructor
  · rw [List.append_assoc, List.getElem?_append_right (Nat.le_refl _)]
    simp
  · simp
theorem hasK_out (ls : List UInt8) (k : Int) (h : ¬ (0 ≤ k ∧ k < 256)) : hasK ls k = false := by unfold hasK; rw [keyNo h]; rfl
theorem byteAt_on (ls : List UInt8) (hl : ls.length = 32) (k j : Int) (hk : keyOK k = true) (hj : keyOK j = true) : byteAt (onK ls k) j = if j.toNat / 8 = k.toNat / 8 then onB (byteAt ls k) (k.toNat % 8) else byteAt ls j := by
  have hx : byteAt ls k < 256 := (ls.getD _ 0).toNat_lt
  have h2 := (on_all ⟨byteAt ls k, hx⟩ ⟨k.toNat % 8, Nat.mod_lt _ (by decide)⟩).2.1
  obtain ⟨k0, k1⟩ := (keyOK_iff k).1 hk
  unfold onK
  rw [hk, if_pos rfl]
  show ((ls.set (k.toNat / 8) _).getD (j.toNat / 8) 0).toNat = _
  rw [List.getD_eq_getElem?_getD, List.getElem?_set]
  by_cases e : j.toNat / 8 = k.toNat / 8
  · rw [if_pos e, if_pos e.symm, if_pos (by omega)]
    exact UInt8.toNat_ofNat_of_lt' h2
  · rw [if_neg e, if_neg (Ne.symm e)]
    unfold byteAt
    rw [List.getD_eq_getElem?_getD]
theorem hasK_eq (ls : List UInt8) (k : Int) (h : keyOK k = true) : hasK ls k = decide (bitN (byteAt ls k) (k.toNat % 8) = 1) := by unfold hasK; rw [h]; rfl
theorem hasK_on (ls : List UInt8) (hl : ls.length = 32) (k : Int) (hk : keyOK k = true) : hasK (onK ls k) k = true := by
  have hx : byteAt ls k < 256 := (ls.getD _ 0).toNat_lt
  have h2 := (on_all ⟨byteAt ls k, hx⟩ ⟨k.toNat % 8, Nat.mod_lt _ (by decide)⟩).2.2.1
  rw [hasK_eq _ _ hk, byteAt_on ls hl k k hk hk, if_pos rfl]
  simpa using h2
theorem hasK_mono (ls : List UInt8) (hl : ls.length = 32) (k j : Int) (h : hasK ls j = true) : hasK (onK ls k) j = true := by
  have hj : keyOK j = true := by
    unfold hasK at h
    rw [Bool.and_eq_true] at h
    exact h.1
  cases hk : keyOK k with
  | false => unfold onK; rw [hk]; exact h
  | true =>
    rw [hasK_eq _ _ hj] at h ⊢
    rw [byteAt_on ls hl k j hk hj]
    by_cases e : j.toNat / 8 = k.toNat / 8
    · rw [if_pos e]
      have hx : byteAt ls k < 256 := (ls.getD _ 0).toNat_lt
      have hb : byteAt ls j = byteAt ls k := by unfold byteAt; rw [e]
      rw [hb] at h
      have h3 := on_all ⟨byteAt ls k, hx⟩ ⟨k.toNat % 8, Nat.mod_lt _ (by decide)⟩
      by_cases e2 : j.toNat % 8 = k.toNat % 8
      · rw [e2]; simpa using h3.2.2.1
      · have h4 := h3.2.2.2 ⟨j.toNat % 8, Nat.mod_lt _ (by decide)⟩ (by intro e3; exact e2 (by simpa using congrArg Fin.val e3))
        simp only at h4
        rw [h4]; exact h
    · rw [if_neg e]; exact h
theorem hasK_fold (ks : List Int) : ∀ (ls : List UInt8), ls.length = 32 → (∀ j, hasK ls j = true → hasK (ks.foldl onK ls) j = true) ∧ ∀ k ∈ ks, keyOK k = true → hasK (ks.foldl onK ls) k = true := by
  induction ks with
  | nil => intro ls _; exact ⟨fun j h => h, fun k hk => by simp at hk⟩
  | cons k ks ih =>
    intro ls hl
    have h2 := ih (onK ls k) (by rw [onK_len]; exact hl)
    refine ⟨fun j h => h2.1 j (hasK_mono ls hl k j h), fun i hi hok => ?_⟩
    rcases List.mem_cons.1 hi with rfl | hi
    · exact h2.1 i (hasK_on ls hl i hok)
    · exact h2.2 i hi hok
theorem hasK_in (ks : List Int) (ls : List UInt8) (hl : ls.length = 32) (k : Int) (hk : k ∈ ks) : hasK (ks.foldl onK ls) k = keyOK k := by
  cases h : keyOK k with
  | true => exact (hasK_fold ks ls hl).2 k hk h
  | false => unfold hasK; rw [h]; rfl
set_option maxRecDepth 100000 in
set_option maxHeartbeats 4000000 in
theorem keys_any (ls : List UInt8) (hl : ls.length = 32) (w : World) :
    Calls Try.prog 27 #[.agg (ls.map encB).toArray] w fun e w' => ∃ v m, e = .returned v ∧ m = (keysTo ls 256).length ∧ w'.ownsRow w.heap.size 3 1 v m ((keysTo ls 256).map (Value.int .i64)) ∧ Below w.heap.size w w' := by
  have hi0 : (Try.prog.info? 47).map (·.size) = some 32 := by kernel_rfl
  obtain ⟨L, hL⟩ : ∃ L, L = ls.map encB := ⟨_, rfl⟩
  rw [← hL]
  have hLl : L.length = 32 := by rw [hL]; simp [hl]
  have HI := Lib.hid (show (Try.prog.info? 47).map (·.size) = some L.length by rw [hLl]; exact hi0)
  have HH := Lib.hid (fun (k : Int) W => nhas_any ls hl k W)
  rw [← hL] at HH
  clear hL hLl hi0 hl
  go_enter Try.func27, Try.ntmps27
  go_wp2_with fail
  obtain ⟨W, hW⟩ : ∃ W, W = w.alloc (.cells L.toArray 47) := ⟨_, rfl⟩
  obtain ⟨xb, hxb⟩ : ∃ xb, xb = w.heap.size := ⟨_, rfl⟩
  have hA0 : Arr W xb L := by rw [hW, hxb]; exact arr_newL w L _
  have hB0 : Below w.heap.size w W := by rw [hW]; exact (Below.refl _ _).alloc (Nat.le_refl _) _
  have hge : xb < W.heap.size := hA0.2.2
  rw [← hW]
  simp only [← hxb]
  have HXB := Lib.hid hxb
  clear hW hxb
  have h0 : W.ownsRow (xb + 1) 3 1 (.slice none 0 0) 0 [] := World.ownsRow_nil _ _ _ _
  go_loopw [2, 3, 4] (fun v2 v3 i wr => ∃ (k m : Nat), k ≤ 256 ∧ m ≤ k ∧ i = .int .i64 k ∧ wr.ownsRow (xb + 1) 3 1 v2 m ((keysTo ls k).map (Value.int .i64)) ∧ Arr wr xb L ∧ Below w.heap.size w wr ∧ xb + 1 ≤ wr.heap.size) (fun _ _ i _ => 256 - (intOf i).toNat)
  case atStart => exact ⟨0, 0, by omega, by omega, rfl, h0, hA0, hB0, hge⟩
  case round =>
    obtain ⟨k, m, hk, hm, rfl, hown, hA, hb, hsz⟩ := hrel
    clear hA0 hB0 h0 hge
    have e1 : keysTo ls (k + 1) = if hasK ls k = true then keysTo ls k ++ [(k : Int)] else keysTo ls k := rfl
    have HK := Lib.hid (HH.out k)
    obtain ⟨bb, hbb⟩ : ∃ b, b = hasK ls k := ⟨_, rfl⟩
    rw [← hbb] at HK e1
    clear hbb
    by_cases hlt : k < 256
    · cases bb
      · have E1 := Lib.hid (show keysTo ls (k + 1) = keysTo ls k by rw [e1, if_neg (by decide)])
        clear e1
        go_wp2_with (first
          | (refine wpList_load_mid rfl 47 _ rfl xb 0 rfl L _ hA.1 Try.underlying47 rfl HI.out ?_)
          | (refine wp_load_mid 47 _ rfl xb 0 rfl L _ hA.1 Try.underlying47 rfl HI.out ?_)
          | (go_at_call 28; refine (HK.out _).mono ?_; rintro e w1 ⟨rfl, hb1⟩; have hA1 := hA.below hb1; have ho1 := own_below hown hb1; have hq1 := hb.trans (hb1.mono hb.size); have hs1 := Nat.le_trans hsz hb1.size))
        go_roundw
        case rel => exact ⟨k + 1, m, by omega, by omega, by go_num, by rw [E1.out]; exact ho1, hA1, hq1, hs1⟩
        case measure => simp [intOf]; omega
      · have E1 := Lib.hid (show keysTo ls (k + 1) = keysTo ls k ++ [(k : Int)] by rw [e1, if_pos rfl])
        clear e1
        go_wp2_with (first
          | (refine wpList_load_mid rfl 47 _ rfl xb 0 rfl L _ hA.1 Try.underlying47 rfl HI.out ?_)
          | (refine wp_load_mid 47 _ rfl xb 0 rfl L _ hA.1 Try.underlying47 rfl HI.out ?_)
          | (go_at_call 28; refine (HK.out _).mono ?_; rintro e w1 ⟨rfl, hb1⟩; have hA1 := hA.below hb1; have ho1 := own_below hown hb1; have hq1 := hb.trans (hb1.mono hb.size); have hs1 := Nat.le_trans hsz hb1.size; have hat := At.new w1 #[.int .i64 (k : Int)] 3 (0, 0))
          | (at_builtin; go_must (refine wp_append (xb + 1) rfl _ _ 56 3 (.int .i64 0) 1 8 rfl Try.underlying56 info_int rfl (by decide) (by decide) u2 m _ (some ⟨w1.heap.size, 0, none⟩) 1 1 [.int .i64 (k : Int)] rfl rfl (ho1.alloc _) hat rfl (by simp [Value.oneCell']) (by simp; omega) (by omega) ?_); intro v1 w2 ho2 hg2 ha2; have hq2 := hq1.alloc hq1.size (.cells #[.int .i64 (k : Int)] 3); have hq3 := hq2.grown hg2 hq2.size (fun j hj => by have := own_base (ho1.alloc (.cells #[.int .i64 (k : Int)] 3)) j hj; have := HXB.out; omega); have hA2 := (hA1.alloc (.cells #[.int .i64 (k : Int)] 3)).grown hg2 (by intro hh; have := own_base (ho1.alloc (.cells #[.int .i64 (k : Int)] 3)) _ hh.symm; omega); have hs2 : xb + 1 ≤ w2.heap.size := Nat.le_trans (by simp; omega) hg2.size))
        go_roundw
        case rel => exact ⟨k + 1, m + 1, by omega, by omega, by go_num, by rw [E1.out, List.map_append]; exact ho2, hA2, hq3, hs2⟩
        case measure => simp [intOf]; omega
    · clear e1 HK
      obtain rfl : k = 256 := by omega
      go_wp2
      go_ret
      refine ⟨u2, m, rfl, ?_, ?_, hb⟩
      · have := hown.1; simp at this; omega
      · exact own_mono hown (by have := HXB.out; omega)
end Go.Proofs.YtljdfhckllncoaaK

import Derived.Test.YtofjabejkcicjaaKAll
import Derived.Test.YtofjabejkcicjaaKEra
import Derived.Laws.MakeOwn
import Derived.Deep.DeepCutAuto
namespace Go.Proofs.YtofjabejkcicjaaK
open Go.RowKit
set_option linter.unusedSimpArgs false
set_option linter.unusedVariables false
/-! New. -/
set_option maxHeartbeats 4000000 in
theorem containsF_any (cb pb tb : Nat) (A : Option Addr) (n c : Nat) (dead out : Bool) (w1 : Value) (n1 : Int) (w2 : Value) (n2 cnt : Int) (v : Value) (L : List Int) (S : List Nat) (w : World) (hL : Ints w v L S) (h : Chp w cb pb (.slice A n c) dead out w1 n1 w2 n2 cnt) (ht : w.cell? ⟨tb, 0, none⟩ = some (.func (.func 33) #[.pointer (some ⟨cb, 0, none⟩)] #[])) :
    Calls Try.prog 51 #[v, .func (.func 52) #[] #[.pointer (some ⟨tb, 0, none⟩)]] w fun e w' => e = .returned (.bool (!L.all (okB n))) ∧ w = w' := by
  have HF := Lib.hid (indexF_any cb pb tb A n c dead out w1 n1 w2 n2 cnt v L S w hL h ht)
  obtain ⟨r, hr⟩ : ∃ r, r = !L.all (okB n) := ⟨_, rfl⟩
  rw [← hr] at HF ⊢
  clear hL h ht hr
  go_enter Try.func51, Try.ntmps51
  go_wp2_with (go_at_call 58; refine HF.out.mono ?_; rintro e w2 ⟨⟨x, rfl, hx⟩, rfl⟩)
  go_ret
  exact ⟨by rw [← hx]; rfl, rfl⟩
set_option maxHeartbeats 4000000 in
theorem all_any (cb pb : Nat) (A : Option Addr) (n c : Nat) (dead out : Bool) (w1 : Value) (n1 : Int) (w2 : Value) (n2 cnt : Int) (v : Value) (L : List Int) (S : List Nat) (w : World) (hL : Ints w v L S) (h : Chp w cb pb (.slice A n c) dead out w1 n1 w2 n2 cnt) :
    Calls Try.prog 32 #[v, .func (.func 33) #[.pointer (some ⟨cb, 0, none⟩)] #[]] w fun e w' => e = .returned (.bool (L.all (okB n))) ∧ Below w.heap.size w w' := by
  obtain ⟨W, hW⟩ : ∃ W, W = w.alloc (.cells #[.func (.func 33) #[.pointer (some ⟨cb, 0, none⟩)] #[]] 76) := ⟨_, rfl⟩
  obtain ⟨tb, htb⟩ : ∃ tb, tb = w.heap.size := ⟨_, rfl⟩
  have hbl : Below w.heap.size w W := by rw [hW]; exact (Below.refl _ _).alloc (Nat.le_refl _) _
  have hG : Chg [] w W := Chg.ofBelow hbl
  have ht : W.cell? ⟨tb, 0, none⟩ = some (.func (.func 33) #[.pointer (some ⟨cb, 0, none⟩)] #[]) := by
    rw [hW, htb]
    exact new_cell w _ _ _ 0 _ rfl
  have HF := Lib.hid (containsF_any cb pb tb A n c dead out w1 n1 w2 n2 cnt v L S W (hL.chg hG (by simp)) (hG.at h (by simp)) ht)
  obtain ⟨r, hr⟩ : ∃ r, r = L.all (okB n) := ⟨_, rfl⟩
  rw [← hr] at HF ⊢
  have HB := Lib.hid hbl
  clear hL h ht hr hbl hG
  go_enter Try.func32, Try.ntmps32
  go_upto_region 1 with fail
  rw [← hW]
  simp only [← htb]
  clear hW htb
  go_wp2_with (go_at_call 51; refine HF.out.mono ?_; rintro e w2 ⟨rfl, rfl⟩)
  go_ret
  exact ⟨by simp, HB.out⟩
theorem blk_zero : (Try.prog.info? 80).map (fun i => (i.zero, i.size, i.bytes)) = some (some (.agg ((List.range 2066).map (blkV (fun _ _ _ => 0) (fun _ => 0) (fun _ => false))).toArray), 2066, 2080) := by kernel_rfl
theorem made_gen (Q : List Value) (m N j : Nat) (v : Value) (hl : Q.length = m) (hj : j < N) (hv : Q[j % m]? = some v) : (madeCells Q.toArray N)[j]? = some v := by
  unfold madeCells
  rw [Array.getElem?_map, Array.getElem?_range]
  simp only [hj, if_true, Option.map_some]
  rw [List.size_toArray, hl]
  rw [List.getElem!_toArray, List.getElem!_eq_getElem?_getD, hv]
  rfl
theorem zeroC_at (k : Nat) (hk : k < 2066) : ((List.range 2066).map (blkV (fun _ _ _ => 0) (fun _ => 0) (fun _ => false)))[k]? = some (blkV (fun _ _ _ => 0) (fun _ => 0) (fun _ => false) k) := by
  rw [List.getElem?_map, List.getElem?_range hk]; rfl
theorem zeroC_len : ((List.range 2066).map (blkV (fun _ _ _ => 0) (fun _ => 0) (fun _ => false))).length = 2066 := by
  rw [List.length_map, List.length_range]
theorem made_at (N j : Nat) (hj : j < N) : (madeCells ((List.range 2066).map (blkV (fun _ _ _ => 0) (fun _ => 0) (fun _ => false))).toArray N)[j]? = some (blkV (fun _ _ _ => 0) (fun _ => 0) (fun _ => false) j) := by
  have h := zeroC_at (j % 2066) (Nat.mod_lt _ (by omega))
  have h2 : blkV (fun _ _ _ => 0) (fun _ => 0) (fun _ => false) (j % 2066) = blkV (fun _ _ _ => 0) (fun _ => 0) (fun _ => false) j := by
    unfold blkV
    rw [Nat.mod_mod]
  rw [h2] at h
  exact made_gen _ 2066 N j _ zeroC_len hj h
theorem Ints.fresh {w : World} {v : Value} {L : List Int} {S : List Nat} (h : Ints w v L S) (r : Nat) (hr : w.heap.size ≤ r) : Ints w v L (r :: S) := by
  obtain ⟨A, c, h1, h2, h3⟩ := h
  by_cases e : L = []
  · exact ⟨A, c, h1, h2, .inl e⟩
  · rcases h3 with h3 | ⟨b, off, h4, h5, h6⟩
    · exact absurd h3 e
    · refine ⟨A, c, h1, h2, .inr ⟨b, off, h4, ?_, h6⟩⟩
      have hl : 0 < L.length := List.length_pos_iff.2 e
      have hc := h6 0 _ (List.getElem?_eq_getElem hl)
      have hb : b < w.heap.size := World.block_lt_of_cell? w _ hc
      intro hm
      rcases List.mem_cons.1 hm with rfl | hm
      · omega
      · exact h5 hm
/-- The pages, and which blocks are bad, when the first k blocks are made ready. -/
def newM (k : Nat) (b p i : Nat) : UInt8 := if b < k ∧ p < 8 then 255 else 0
def bdN (L : List Int) (k : Nat) (b : Nat) : Bool := decide (b < k) && L.contains (b : Int)
theorem newM_step (k : Nat) : wiM (newM k) k 8 = newM (k + 1) := by
  funext b p i
  unfold wiM newM
  by_cases e : b = k ∧ p < 8
  · rw [if_pos e, if_pos (by omega)]
  · rw [if_neg e]
    by_cases e2 : b < k ∧ p < 8
    · rw [if_pos e2, if_pos (by omega)]
    · rw [if_neg e2, if_neg (by omega)]
theorem bdN_step (L : List Int) (k : Nat) : upd (bdN L k) k (L.contains (k : Int)) = bdN L (k + 1) := by
  funext b
  unfold upd bdN
  by_cases e : b = k
  · rw [if_pos e, e]
    simp
  · rw [if_neg e]
    by_cases e2 : b < k
    · simp [e2, show b < k + 1 from by omega]
    · simp [e2, show ¬ b < k + 1 from by omega]
def newC (n : Nat) (L : List Int) : Ch := ⟨n, newM n, fun _ => 0, bdN L n, false, false, [], 0, [], 0, 0⟩
set_option maxRecDepth 100000 in
set_option maxHeartbeats 8000000 in
theorem new_any (pb n : Nat) (v : Value) (L : List Int) (S : List Nat) (w : World) (h16 : 16 ≤ n) (h40 : n ≤ 40) (hL : Ints w v L []) (hall : L.all (okB n) = true) :
    Calls Try.prog 11 #[.pointer (some ⟨pb, 0, none⟩), .int .i64 (n : Int), v] w fun e w' =>
      e = .returned (.tuple #[.pointer (some ⟨w.heap.size + 1, 0, none⟩), .int .i64 0]) ∧ Below w.heap.size w w' ∧ ∀ S, ChW w' S pb (w.heap.size + 1) w.heap.size (newC n L) := by
  have hmk : ∀ W : World, (Instr.makeSlice 41 (.int .i64 (n : Int)) (.int .i64 (n : Int))).run Try.prog W = .ok (.slice (some ⟨W.heap.size, 0, none⟩) n n) (W.alloc (.cells (madeCells ((List.range 2066).map (blkV (fun _ _ _ => 0) (fun _ => 0) (fun _ => false))).toArray (n * 2066)) 80)) := by
    intro W
    obtain ⟨i0, hi, hzz⟩ := Option.map_eq_some_iff.1 blk_zero
    simp only [Prod.mk.injEq] at hzz
    obtain ⟨hz0, hz1, hz2⟩ := hzz
    have h := run_make (P := Try.prog) W 41 80 i0 _ Try.underlying41 hi hz0 .i64 .i64 n n (by omega) (by omega) (by rw [hz2]; omega) (by omega)
    rw [hz1] at h
    simp only [Int.toNat_natCast] at h
    exact h
  obtain ⟨Z, hZ⟩ : ∃ Z, Z = madeCells ((List.range 2066).map (blkV (fun _ _ _ => 0) (fun _ => 0) (fun _ => false))).toArray (n * 2066) := ⟨_, rfl⟩
  rw [← hZ] at hmk
  obtain ⟨rb, hrb⟩ : ∃ rb, rb = w.heap.size := ⟨_, rfl⟩
  obtain ⟨W1, hW1⟩ : ∃ W1, W1 = w.alloc (.cells Z 80) := ⟨_, rfl⟩
  obtain ⟨W2, hW2⟩ : ∃ W2, W2 = W1.alloc (.cells #[.pointer (some ⟨pb, 0, none⟩), .slice (some ⟨rb, 0, none⟩) n n, .bool false, .bool false, .slice none 0 0, .int .i64 0, .slice none 0 0, .int .i64 0, .int .i64 0] 45) := ⟨_, rfl⟩
  have hs1 : W1.heap.size = rb + 1 := by rw [hW1, hrb]; simp
  have hR1 : Row W1 rb (2066 * n) (blkV (newM 0) (fun _ => 0) (bdN L 0)) := by
    have h := Row.new (f := blkV (fun _ _ _ => 0) (fun _ => 0) (fun _ => false)) w Z 80 (fun j hj => by
      rw [hZ, size_madeCells] at hj
      rw [hZ]
      exact made_at _ j hj)
    rw [← hW1, ← hrb, hZ, size_madeCells, Nat.mul_comm] at h
    exact h
  have hb2 : Below w.heap.size w W2 := by rw [hW2, hW1]; exact ((Below.refl _ _).alloc (Nat.le_refl _) _).alloc (by simp) _
  have hb12 : Below W1.heap.size W1 W2 := by rw [hW2]; exact (Below.refl _ _).alloc (Nat.le_refl _) _
  have hR2 := hR1.below hb12
  have hC2 : Chp W2 (rb + 1) pb (.slice (some ⟨rb, 0, none⟩) n n) false false (.slice none 0 0) 0 (.slice none 0 0) 0 0 := by
    rw [hW2, ← hs1]
    exact heap_alloc_new W1 _
  have hI2 : Ints W2 v L [rb] := (hL.fresh rb (by omega)).chg (S' := []) (Chg.ofBelow hb2) (by simp)
  have HALL := Lib.hid (all_any (rb + 1) pb _ n n false false _ 0 _ 0 0 v L [rb] W2 hI2 hC2)
  rw [hall] at HALL
  have HLOOP := Lib.hid (fun wa (hb : Below W2.heap.size W2 wa) => (show Below w.heap.size w wa ∧ Row wa rb (2066 * n) (blkV (newM 0) (fun _ => 0) (bdN L 0)) ∧ Chp wa (rb + 1) pb (.slice (some ⟨rb, 0, none⟩) n n) false false (.slice none 0 0) 0 (.slice none 0 0) 0 0 ∧ Ints wa v L [rb] from
    ⟨hb2.trans (hb.mono hb2.size), hR2.below hb, (Chg.ofBelow (S := []) hb).at hC2 (by simp), hI2.chg (S' := []) (Chg.ofBelow hb) (by simp)⟩))
  have HRB := Lib.hid hrb
  have hn16 : ¬ (n : Int) < 16 := by omega
  have hn40 : ¬ (40 : Int) < n := by omega
  have d16 : decide ((n : Int) < 16) = false := by simpa using hn16
  have d40 : decide ((40 : Int) < n) = false := by simpa using hn40
  clear hZ hR1 hb2 hb12 hR2 hC2 hI2 hall hL
  go_enter Try.func11, Try.ntmps11
  go_upto_region 4 with fail
  simp only [← hrb, ← hW1, hs1, ← hW2]
  clear hmk hW1 hW2 hs1 hrb
  go_wp2_with (go_at_call 32; refine HALL.out.mono ?_; rintro e wa ⟨rfl, hba⟩; obtain ⟨hq1, hq2, hq3, hq4⟩ := HLOOP.out wa hba; have k1 : wa.cell? ⟨rb + 1, 1, none⟩ = some (.slice (some ⟨rb, 0, none⟩) n n) := cellP hq3 1)
  clear HALL HLOOP k1 hba
  go_loopw [9, 10, 32] (fun v9 v10 v32 wr => ∃ k : Nat, k ≤ n ∧ v32 = .int .i64 k ∧ Below w.heap.size w wr ∧ Row wr rb (2066 * n) (blkV (newM k) (fun _ => 0) (bdN L k)) ∧ Chp wr (rb + 1) pb (.slice (some ⟨rb, 0, none⟩) n n) false false (.slice none 0 0) 0 (.slice none 0 0) 0 0 ∧ Ints wr v L [rb]) (fun _ _ v32 _ => n - (intOf v32).toNat)
  case atStart => exact ⟨0, by omega, rfl, hq1, hq2, hq3, hq4⟩
  case round =>
    obtain ⟨k, hk, rfl, hB, hR, hC, hI⟩ := hrel
    clear hq1 hq2 hq3 hq4
    by_cases hlt : k < n
    · have hk1 : (k : Int) < n := by omega
      have hk0 : (0 : Int) ≤ k := by omega
      have k1 : wr.cell? ⟨rb + 1, 1, none⟩ = some (.slice (some ⟨rb, 0, none⟩) n n) := cellP hC 1
      have r5 := hR.at (k * 2066 + 2065) (by omega)
      have y5 := hR.fr (k * 2066 + 2065) (by omega)
      have HCO := Lib.hid (contains_any hI (k : Int))
      obtain ⟨bv, hbv⟩ : ∃ bv, bv = L.contains (k : Int) := ⟨_, rfl⟩
      rw [← hbv] at HCO
      have g1 : Chg [rb] wr (wr.setCell ⟨rb, k * 2066 + 2065, none⟩ (.bool bv)) := (Chg.refl _ _).set ⟨rb, _, none⟩ (by simp) _
      have hR2 : Row (wr.setCell ⟨rb, k * 2066 + 2065, none⟩ (.bool bv)) rb (2066 * n) (blkV (newM k) (fun _ => 0) (bdN L (k + 1))) :=
        (hR.set (k * 2066 + 2065) (.bool bv)).congr fun j hj => (blkV_set_bad (newM k) (fun _ => 0) (bdN L k) k bv j).trans (by rw [hbv, bdN_step])
      have HWI := Lib.hid (wipe_any rb n k (newM k) (fun _ => 0) (bdN L (k + 1)) 8 hlt _ hR2)
      rw [show clampN 8 8 = 8 from by decide, newM_step] at HWI
      have HG := Lib.hid (fun w5 (g2 : Chg [rb] (wr.setCell ⟨rb, k * 2066 + 2065, none⟩ (.bool bv)) w5) => (show Below w.heap.size w w5 ∧ Chp w5 (rb + 1) pb (.slice (some ⟨rb, 0, none⟩) n n) false false (.slice none 0 0) 0 (.slice none 0 0) 0 0 ∧ Ints w5 v L [rb] from
        ⟨hB.trans ((g1.trans g2).below hB.size (by simp [HRB.out])), (g1.trans g2).at hC (by simp), hI.chg (g1.trans g2) (by simp)⟩))
      clear hB hR hC hI hbv g1 hR2
      go_wp2_with (first
        | (go_at_call 34; refine HCO.out.mono ?_; rintro e w2 ⟨rfl, rfl⟩)
        | (go_at_call 35; refine HWI.out.mono ?_; rintro e w5 ⟨⟨u, rfl⟩, hR6, g6⟩; obtain ⟨ha1, ha2, ha3⟩ := HG.out w5 g6; clear g6))
      go_roundw
      case rel => exact ⟨k + 1, by omega, by go_num, ha1, hR6, ha2, ha3⟩
      case measure => simp [intOf]; omega
    · obtain rfl : k = n := by omega
      have HFI := Lib.hid (show Below w.heap.size w wr ∧ ∀ S, ChW wr S pb (w.heap.size + 1) w.heap.size (newC k L) from
        ⟨hB, fun S => by rw [← HRB.out]; exact ⟨_, _, hC, Ints.nil _ _ _ _, Ints.nil _ _ _ _, hR⟩⟩)
      clear hB hR hC hI
      go_wp2_with fail
      go_ret2
      exact ⟨by simp [HRB.out], HFI.out⟩
end Go.Proofs.YtofjabejkcicjaaK

import Derived.Test.YtljdfhckllncoaaKHamP
import Derived.Test.YtljdfhckllncoaaKMa
import Derived.Deep.RegionHeld3
import Derived.RegionTactic
import Derived.ChangeAlike
namespace Go.Proofs.YtljdfhckllncoaaK
open Go.RowKit
set_option linter.unusedSimpArgs false
set_option linter.unusedVariables false
/-! Which nodes there are: 256 bits in 32 bytes. -/
def onB (x j : Nat) : Nat := if bitN x j = 1 then x else x + 2 ^ j
def offB (x j : Nat) : Nat := if bitN x j = 1 then x - 2 ^ j else x
def keyOK (k : Int) : Bool := decide (0 ≤ k) && decide (k < 256)
def byteAt (ls : List UInt8) (k : Int) : Nat := (ls.getD (k.toNat / 8) 0).toNat
def hasK (ls : List UInt8) (k : Int) : Bool := keyOK k && decide (bitN (byteAt ls k) (k.toNat % 8) = 1)
def onK (ls : List UInt8) (k : Int) : List UInt8 := if keyOK k = true then ls.set (k.toNat / 8) (UInt8.ofNat (onB (byteAt ls k) (k.toNat % 8))) else ls
def offK (ls : List UInt8) (k : Int) : List UInt8 := if keyOK k = true then ls.set (k.toNat / 8) (UInt8.ofNat (offB (byteAt ls k) (k.toNat % 8))) else ls
def setK (ls : List UInt8) (k : Int) (b : Bool) : List UInt8 := if b = true then onK ls k else offK ls k
set_option maxRecDepth 100000 in
theorem on_all : ∀ (x : Fin 256) (j : Fin 8), bits .or .u8 (x.val : Int) ((2 : Int) ^ j.val % 256) = (onB x.val j.val : Int) ∧ onB x.val j.val < 256 ∧ bitN (onB x.val j.val) j.val = 1 ∧ (∀ i : Fin 8, i ≠ j → bitN (onB x.val j.val) i.val = bitN x.val i.val) := by decide +kernel
set_option maxRecDepth 100000 in
theorem off_all : ∀ (x : Fin 256) (j : Fin 8), bits .andNot .u8 (x.val : Int) ((2 : Int) ^ j.val % 256) = (offB x.val j.val : Int) ∧ offB x.val j.val < 256 := by decide +kernel
set_option maxRecDepth 100000 in
theorem turn_all : ∀ (x : Fin 256) (j : Fin 8), bits .xor .u8 (x.val : Int) ((2 : Int) ^ j.val % 256) = ((if bitN x.val j.val = 1 then offB x.val j.val else onB x.val j.val : Nat) : Int) := by decide +kernel
set_option maxRecDepth 100000 in
theorem low_all : ∀ (x : Fin 256) (j : Fin 8), bits .and .u8 ((x.val : Int) / (2 : Int) ^ j.val) 1 = (bitN x.val j.val : Int) ∧ ((x.val : Int) / (2 : Int) ^ j.val).tmod 2 = (bitN x.val j.val : Int) := by decide +kernel
theorem keyOK_iff (k : Int) : keyOK k = true ↔ 0 ≤ k ∧ k < 256 := by unfold keyOK; simp
theorem onK_len (ls : List UInt8) (k : Int) : (onK ls k).length = ls.length := by unfold onK; split <;> simp
theorem offK_len (ls : List UInt8) (k : Int) : (offK ls k).length = ls.length := by unfold offK; split <;> simp
theorem setK_len (ls : List UInt8) (k : Int) (b : Bool) : (setK ls k b).length = ls.length := by unfold setK; split; exact onK_len _ _; exact offK_len _ _
theorem foldl_len (f : List UInt8 → Int → List UInt8) (h : ∀ l k, (f l k).length = l.length) : ∀ (ks : List Int) (ls : List UInt8), (ks.foldl f ls).length = ls.length := by
  intro ks
  induction ks with
  | nil => intro ls; rfl
  | cons k ks ih => intro ls; show ((ks.foldl f (f ls k))).length = _; rw [ih, h]
theorem beq1 (b : Nat) : ((b : Int) == 1) = decide (b = 1) := by
  by_cases h : b = 1
  · subst h; rfl
  · rw [decide_eq_false h]; exact beq_eq_false_iff_ne.2 (by omega)
theorem keyNo {k : Int} (h : ¬ (0 ≤ k ∧ k < 256)) : keyOK k = false := by
  cases hh : keyOK k
  · rfl
  · exact absurd ((keyOK_iff k).1 hh) h
theorem valid_any (k : Int) (w : World) : Calls Try.prog 49 #[.int .i64 k] w fun e w' => e = .returned (.bool (keyOK k)) ∧ w = w' := by
  have hk : keyOK k = (decide (0 ≤ k) && decide (k < 256)) := rfl
  obtain ⟨b, hb⟩ : ∃ b, b = keyOK k := ⟨_, rfl⟩
  rw [← hb] at hk ⊢
  have HK := Lib.hid hk
  clear hk hb
  by_cases h1 : 0 ≤ k
  · go_enter Try.func49, Try.ntmps49
    go_wp2
    go_ret
    exact ⟨by rw [HK.out, decide_eq_true h1]; rfl, rfl⟩
  · go_enter Try.func49, Try.ntmps49
    go_wp2
    go_ret
    have e1 : decide (0 ≤ k) = false := by simpa using h1
    exact ⟨by rw [HK.out, e1]; rfl, rfl⟩
theorem encB_cell (bs : List UInt8) (q : Nat) (hq : q < bs.length) : (bs.map encB)[q]? = some (.int .u8 ((bs.getD q 0).toNat : Int)) := by
  rw [List.getElem?_map, List.getElem?_eq_getElem hq, List.getD_eq_getElem?_getD, List.getElem?_eq_getElem hq]
  rfl
set_option maxRecDepth 100000 in
set_option maxHeartbeats 2000000 in
theorem nhas_any (ls : List UInt8) (hl : ls.length = 32) (k : Int) (w : World) :
    Calls Try.prog 28 #[.agg (ls.map encB).toArray, .int .i64 k] w fun e w' => e = .returned (.bool (hasK ls k)) ∧ Below w.heap.size w w' := by
  have HV := Lib.hid (fun W => valid_any k W)
  by_cases h : 0 ≤ k ∧ k < 256
  · obtain ⟨k0, k1⟩ := h
    have hv : keyOK k = true := (keyOK_iff k).2 ⟨k0, k1⟩
    obtain ⟨n, rfl⟩ := Int.eq_ofNat_of_zero_le k0
    have hh : hasK ls n = decide (bitN (byteAt ls n) (n % 8) = 1) := by unfold hasK; rw [hv]; rfl
    rw [hv] at HV
    rw [hh]
    clear hh hv
    have hqc := encB_cell ls (n / 8) (by omega)
    have hx : byteAt ls n = (ls.getD (n / 8) 0).toNat := rfl
    rw [hx]
    have hxl := (ls.getD (n / 8) 0).toNat_lt
    obtain ⟨x, hx2⟩ : ∃ x, x = (ls.getD (n / 8) 0).toNat := ⟨_, rfl⟩
    rw [← hx2] at hqc hxl ⊢
    obtain ⟨q, hq⟩ : ∃ q, q = n / 8 := ⟨_, rfl⟩
    obtain ⟨r, hr⟩ : ∃ r, r = n % 8 := ⟨_, rfl⟩
    have hlo := (low_all ⟨x, hxl⟩ ⟨n % 8, Nat.mod_lt _ (by decide)⟩).1
    simp only at hlo
    rw [← hr] at hlo ⊢
    rw [← hq] at hqc
    have x5 : (n : Int) / 8 = (q : Int) := by omega
    have x6 : (n : Int) % 8 = (r : Int) := by omega
    have hq9 : (q : Int) < 32 := by omega
    have hq0 : (0 : Int) ≤ q := by omega
    have hr9 : (r : Int) < 8 := by omega
    have hr0 : (0 : Int) ≤ r := by omega
    have hx0 : (0 : Int) ≤ x := by omega
    have hx9 : (x : Int) < 256 := by omega
    have hb := bitN_lt x r
    obtain ⟨b, hbe⟩ : ∃ b, b = bitN x r := ⟨_, rfl⟩
    rw [← hbe] at hlo hb ⊢
    obtain ⟨L, hL⟩ : ∃ L, L = ls.map encB := ⟨_, rfl⟩
    rw [← hL] at hqc ⊢
    have hLl : L.length = 32 := by rw [hL]; simp [hl]
    obtain ⟨W, hW⟩ : ∃ W, W = w.alloc (.cells L.toArray 47) := ⟨_, rfl⟩
    obtain ⟨xb, hxb⟩ : ∃ xb, xb = w.heap.size := ⟨_, rfl⟩
    have hbW : Below w.heap.size w W := by rw [hW]; exact (Below.refl _ _).alloc (Nat.le_refl _) _
    have hA : Arr W xb L := by rw [hW, hxb]; exact arr_newL w L _
    have hc := hA.at_ q _ hqc
    clear hx hx2 hq hr hbe hL hLl hqc hA hl
    go_enter Try.func28, Try.ntmps28
    go_wp2_with fail
    rw [← hW]
    simp only [← hxb]
    clear hW hxb
    go_wp2_with (go_at_call 49; refine (HV.out _).mono ?_; rintro e w1 ⟨rfl, rfl⟩)
    go_ret
    exact ⟨by rw [← beq1]; rfl, hbW⟩
  · have hv : keyOK k = false := by
      cases hh : keyOK k
      · rfl
      · exact absurd ((keyOK_iff k).1 hh) h
    have hh : hasK ls k = false := by unfold hasK; rw [hv]; rfl
    rw [hv] at HV
    rw [hh]
    clear hv hh h
    go_enter Try.func28, Try.ntmps28
    go_wp2_with (go_at_call 49; refine (HV.out _).mono ?_; rintro e w1 ⟨rfl, rfl⟩)
    go_ret
    exact ⟨rfl, (Below.refl _ _).alloc (Nat.le_refl _) _⟩
set_option maxRecDepth 100000 in
set_option maxHeartbeats 2000000 in
theorem rhas_any (ls : List UInt8) (hl : ls.length = 32) (k : Int) (w : World) :
    Calls Try.prog 29 #[.agg (ls.map encB).toArray, .int .i64 k] w fun e w' => e = .returned (.bool (hasK ls k)) ∧ Below w.heap.size w w' := by
  by_cases h : 0 ≤ k ∧ k < 256
  · obtain ⟨k0, k1⟩ := h
    have hv : keyOK k = true := (keyOK_iff k).2 ⟨k0, k1⟩
    obtain ⟨n, rfl⟩ := Int.eq_ofNat_of_zero_le k0
    have hh : hasK ls n = decide (bitN (byteAt ls n) (n % 8) = 1) := by unfold hasK; rw [hv]; rfl
    rw [hh]
    clear hh hv
    have hqc := encB_cell ls (n / 8) (by omega)
    have hx : byteAt ls n = (ls.getD (n / 8) 0).toNat := rfl
    rw [hx]
    have hxl := (ls.getD (n / 8) 0).toNat_lt
    obtain ⟨x, hx2⟩ : ∃ x, x = (ls.getD (n / 8) 0).toNat := ⟨_, rfl⟩
    rw [← hx2] at hqc hxl ⊢
    obtain ⟨q, hq⟩ : ∃ q, q = n / 8 := ⟨_, rfl⟩
    obtain ⟨r, hr⟩ : ∃ r, r = n % 8 := ⟨_, rfl⟩
    have hlo := (low_all ⟨x, hxl⟩ ⟨n % 8, Nat.mod_lt _ (by decide)⟩).2
    simp only at hlo
    rw [← hr] at hlo ⊢
    rw [← hq] at hqc
    have x5 : (n : Int) / 8 = (q : Int) := by omega
    have x6 : (n : Int) % 8 = (r : Int) := by omega
    have hq9 : (q : Int) < 32 := by omega
    have hq0 : (0 : Int) ≤ q := by omega
    have hr9 : (r : Int) < 8 := by omega
    have hr0 : (0 : Int) ≤ r := by omega
    have hx0 : (0 : Int) ≤ x := by omega
    have hx9 : (x : Int) < 256 := by omega
    have hb := bitN_lt x r
    obtain ⟨b, hbe⟩ : ∃ b, b = bitN x r := ⟨_, rfl⟩
    rw [← hbe] at hlo hb ⊢
    obtain ⟨L, hL⟩ : ∃ L, L = ls.map encB := ⟨_, rfl⟩
    rw [← hL] at hqc ⊢
    have hLl : L.length = 32 := by rw [hL]; simp [hl]
    have hbW : Below w.heap.size w (w.alloc (.cells L.toArray 47)) := (Below.refl _ _).alloc (Nat.le_refl _) _
    have hA : Arr (w.alloc (.cells L.toArray 47)) w.heap.size L := arr_newL w L _
    have hc := hA.at_ q _ hqc
    clear hx hx2 hq hr hbe hL hLl hqc hA hl
    go_enter Try.func29, Try.ntmps29
    go_wp2_with fail
    go_ret
    exact ⟨by rw [← beq1]; rfl, hbW⟩
  · have hh : hasK ls k = false := by unfold hasK; rw [keyNo h]; rfl
    rw [hh]
    clear hh
    by_cases h0 : k < 0
    · go_enter Try.func29, Try.ntmps29
      go_wp2_with fail
      go_ret
      exact ⟨rfl, (Below.refl _ _).alloc (Nat.le_refl _) _⟩
    · have h1 : 255 < k := by omega
      clear h
      go_enter Try.func29, Try.ntmps29
      go_wp2_with fail
      go_ret
      exact ⟨rfl, (Below.refl _ _).alloc (Nat.le_refl _) _⟩
theorem bitN_01 (x j : Nat) : bitN x j = 0 ∨ bitN x j = 1 := by have := bitN_lt x j; omega
theorem hasK_ok (ls : List UInt8) (n : Nat) (h : (n : Int) < 256) : hasK ls n = decide (bitN (byteAt ls n) (n % 8) = 1) := by
  unfold hasK; rw [(keyOK_iff n).2 ⟨by omega, h⟩]; rfl
set_option maxRecDepth 100000 in
/-- A turned bit is the bit set, or taken away. -/
theorem setK_turn (ls : List UInt8) (hl : ls.length = 32) (n : Nat) (h : (n : Int) < 256) (b : Bool) (hne : hasK ls n ≠ b) :
    (ls.map encB).toArray.setIfInBounds (n / 8) (.int .u8 (bits .xor .u8 ((byteAt ls n : Nat) : Int) ((2 : Int) ^ (n % 8) % 256))) = ((setK ls n b).map encB).toArray := by
  have hx : byteAt ls n < 256 := (ls.getD _ 0).toNat_lt
  have hr : n % 8 < 8 := Nat.mod_lt _ (by decide)
  have h1 := turn_all ⟨byteAt ls n, hx⟩ ⟨n % 8, hr⟩
  have h2 := (on_all ⟨byteAt ls n, hx⟩ ⟨n % 8, hr⟩).2.1
  have h3 := (off_all ⟨byteAt ls n, hx⟩ ⟨n % 8, hr⟩).2
  simp only at h1 h2 h3
  rw [h1]
  have hk : keyOK n = true := (keyOK_iff n).2 ⟨by omega, h⟩
  rw [hasK_ok ls n h] at hne
  unfold setK onK offK
  rw [hk, if_pos rfl, if_pos rfl, Int.toNat_natCast]
  rw [List.setIfInBounds_toArray]
  congr 1
  by_cases hb : bitN (byteAt ls n) (n % 8) = 1
  · rw [if_pos hb]
    have : b = false := by cases b; rfl; simp [hb] at hne
    subst this
    rw [if_neg (by decide), List.map_set]
    congr 1
    unfold encB
    rw [UInt8.toNat_ofNat_of_lt' h3]
  · rw [if_neg hb]
    have : b = true := by cases b; simp [hb] at hne; rfl
    subst this
    rw [if_pos rfl, List.map_set]
    congr 1
    unfold encB
    rw [UInt8.toNat_ofNat_of_lt' h2]
theorem setB_self (ls : List UInt8) (q : Nat) (hq : q < ls.length) : ls.set q (UInt8.ofNat (ls.getD q 0).toNat) = ls := by
  rw [UInt8.ofNat_toNat, List.getD_eq_getElem?_getD, List.getElem?_eq_getElem hq]
  exact List.set_getElem_self hq
theorem setK_same (ls : List UInt8) (hl : ls.length = 32) (k : Int) (b : Bool) (h : keyOK k = false ∨ hasK ls k = b) : setK ls k b = ls := by
  unfold setK onK offK
  cases hk : keyOK k with
  | false => simp
  | true =>
    obtain ⟨k0, k1⟩ := (keyOK_iff k).1 hk
    rcases h with h | h
    · rw [hk] at h; cases h
    · have hh : hasK ls k = decide (bitN (byteAt ls k) (k.toNat % 8) = 1) := by unfold hasK; rw [hk]; rfl
      rw [hh] at h
      have hs := setB_self ls (k.toNat / 8) (by omega)
      cases b with
      | true =>
        have h1 : bitN (byteAt ls k) (k.toNat % 8) = 1 := by simpa using h
        rw [if_pos rfl, if_pos rfl]
        unfold onB; rw [if_pos h1]; exact hs
      | false =>
        have h1 : ¬ bitN (byteAt ls k) (k.toNat % 8) = 1 := by simpa using h
        rw [if_neg (by decide), if_pos rfl]
        unfold offB; rw [if_neg h1]; exact hs
end Go.Proofs.YtljdfhckllncoaaK

import Derived.Test.YtoeonmdcoiemmaaKHamX
import Derived.Test.YtoeonmdcoiemmaaKArr
namespace Go.Proofs.YtoeonmdcoiemmaaK
open Go.RowKit
set_option linter.unusedSimpArgs false
set_option linter.unusedVariables false
theorem zeroD_len : zeroD.length = 256 := List.length_replicate
theorem fixR_len (bs : List UInt8) (hl : bs.length = 256) (c : Nat) : (fixR bs c).1.length = 256 := by
  have hf : ∀ i, (flipD bs i).length = 256 := fun i => by unfold flipD; rw [List.length_set]; exact hl
  unfold fixR
  split
  · exact hl
  · split
    · exact zeroD_len
    · split
      · exact hl
      · split
        · exact zeroD_len
        · exact hf _
theorem fixR_err (bs : List UInt8) (c : Nat) : (fixR bs c).2.1 ≤ 1 ∧ (fixR bs c).2.2 ≤ 21 := by
  have h : ∀ (x : List UInt8) (n e : Nat), n ≤ 1 → e ≤ 21 → ((x, n, e) : List UInt8 × Nat × Nat).2.1 ≤ 1 ∧ ((x, n, e) : List UInt8 × Nat × Nat).2.2 ≤ 21 := fun _ _ _ h1 h2 => ⟨h1, h2⟩
  unfold fixR
  split
  · exact h _ _ _ (by decide) (by decide)
  · split
    · exact h _ _ _ (by decide) (by decide)
    · split
      · exact h _ _ _ (by decide) (by decide)
      · split
        · exact h _ _ _ (by decide) (by decide)
        · exact h _ _ _ (by decide) (by decide)
theorem u16_and_nat (a b : Nat) (ha : a < 65536) (hb : b < 65536) : bits .and .u16 (a : Int) (b : Int) = ((a &&& b : Nat) : Int) := by
  have h := Nat.and_lt_two_pow (n := 16) a hb
  show IntKind.u16.wrap (((BitVec.ofInt 16 (a : Int)) &&& (BitVec.ofInt 16 (b : Int))).toNat : Int) = _
  rw [BitVec.ofInt_natCast, BitVec.ofInt_natCast, BitVec.toNat_and, BitVec.toNat_ofNat, BitVec.toNat_ofNat, Nat.mod_eq_of_lt (by omega), Nat.mod_eq_of_lt (by omega), IntKind.wrap_u16]
  omega
theorem u16_xor_nat (a b : Nat) (ha : a < 65536) (hb : b < 65536) : bits .xor .u16 (a : Int) (b : Int) = ((a ^^^ b : Nat) : Int) := by
  have h := Nat.xor_lt_two_pow (n := 16) ha hb
  show IntKind.u16.wrap (((BitVec.ofInt 16 (a : Int)) ^^^ (BitVec.ofInt 16 (b : Int))).toNat : Int) = _
  rw [BitVec.ofInt_natCast, BitVec.ofInt_natCast, BitVec.toNat_xor, BitVec.toNat_ofNat, BitVec.toNat_ofNat, Nat.mod_eq_of_lt (by omega), Nat.mod_eq_of_lt (by omega), IntKind.wrap_u16]
  omega
theorem above_mod (c a : Nat) : (c ^^^ (a &&& 57344)) % 8192 = c % 8192 := by
  have h1 := Nat.xor_mod_two_pow (a := c) (b := a &&& 57344) (n := 13)
  have h2 := Nat.and_mod_two_pow (a := a) (b := 57344) (n := 13)
  rw [show (2 : Nat) ^ 13 = 8192 from rfl] at h1 h2
  rw [h1, h2, show 57344 % 8192 = 0 from rfl, Nat.and_zero, Nat.xor_zero]
theorem fixR_mod (bs : List UInt8) (c c' : Nat) (h : c' % 8192 = c % 8192) : fixR bs c' = fixR bs c := by
  have h2 : c' % 4096 = c % 4096 := by omega
  unfold fixR
  rw [h, h2]
theorem size_setC (w : World) (o : Obj) (vs : List Value) : w.heap.size < ((w.alloc o).setCells w.heap.size 0 vs).heap.size := by
  have h : ∀ (vs : List Value) (b k : Nat) (w : World), w.heap.size ≤ (w.setCells b k vs).heap.size := by
    intro vs
    induction vs with
    | nil => intro b k w; exact Nat.le_refl _
    | cons v r ih => intro b k w; rw [World.setCells]; exact Nat.le_trans (by simp) (ih b (k + 1) _)
  have h1 := h vs w.heap.size 0 (w.alloc o)
  have h2 : (w.alloc o).heap.size = w.heap.size + 1 := by simp
  omega
set_option maxRecDepth 100000 in
set_option maxHeartbeats 4000000 in
theorem hamAbove_walk (bs : List UInt8) (hl : bs.length = 256) (c a : Int) (w : World) (hc : 0 ≤ c ∧ c < 65536) (ha : 0 ≤ a ∧ a < 65536) :
    Calls Try.prog 6 #[.agg (bs.map encB).toArray, .int .u16 c, .int .u16 a] w fun e w' => e = .returned (.bool true) ∧ Below w.heap.size w w' := by
  obtain ⟨c, rfl⟩ : ∃ x : Nat, c = (x : Int) := ⟨c.toNat, by omega⟩
  obtain ⟨a, rfl⟩ : ∃ x : Nat, a = (x : Int) := ⟨a.toNat, by omega⟩
  have hc := hc.2
  have ha := ha.2
  obtain ⟨d, hd⟩ : ∃ d, d = a &&& 57344 := ⟨_, rfl⟩
  obtain ⟨f, hf⟩ : ∃ f, f = c ^^^ d := ⟨_, rfl⟩
  have hdl : d < 65536 := by rw [hd]; exact Nat.and_lt_two_pow (n := 16) a (by decide)
  have hfl : f < 65536 := by rw [hf]; exact Nat.xor_lt_two_pow (n := 16) (by omega) hdl
  have x1 : bits .and .u16 (a : Int) 57344 = (d : Int) := by rw [hd]; exact u16_and_nat a 57344 (by omega) (by decide)
  have x2 : bits .xor .u16 (c : Int) (d : Int) = (f : Int) := by rw [hf]; exact u16_xor_nat c d (by omega) hdl
  have hff : fixR bs f = fixR bs c := fixR_mod bs c f (by rw [hf, hd]; exact above_mod c a)
  have HF1 := fun W => fix_any bs hl c (by omega) W
  have HF2 := fun W => fix_any bs hl f hfl W
  rw [hff] at HF2
  have hkl := chk_lt bs
  have HCk := fun W => check_any bs hl W
  have hRl := fixR_len bs hl c
  obtain ⟨h1e, h2e⟩ := fixR_err bs c
  obtain ⟨n, hn⟩ : ∃ n, n = (fixR bs c).2.1 := ⟨_, rfl⟩
  obtain ⟨e, he⟩ : ∃ e, e = (fixR bs c).2.2 := ⟨_, rfl⟩
  obtain ⟨k, hk⟩ : ∃ k, k = chk bs := ⟨_, rfl⟩
  have heq := fun w => arr_eql (P := Try.prog) Try.underlying23 Try.underlying5 (by kernel_rfl) (by kernel_rfl) (by kernel_rfl) (fixR bs c).1 (fixR bs c).1 hRl hRl w
  simp only [decide_true] at heq
  obtain ⟨L1, hL1⟩ : ∃ L, L = (fixR bs c).1.map encB := ⟨_, rfl⟩
  obtain ⟨L, hL⟩ : ∃ L, L = bs.map encB := ⟨_, rfl⟩
  rw [← hL1] at heq
  rw [← hL, ← hL1, ← hn, ← he] at HF1 HF2
  rw [← hL, ← hk] at HCk
  rw [← hk] at hkl
  rw [← hn] at h1e
  rw [← he] at h2e
  have hLl : L.length = 256 := by rw [hL]; simp [hl]
  have hL1l : L1.length = 256 := by rw [hL1]; simp [hRl]
  have h1L1 : ∀ v ∈ L1, v.oneCell' = true := by rw [hL1]; exact encB_all _
  have hi0 : (Try.prog.info? 23).map (·.size) = some 256 := by kernel_rfl
  have HIL := Lib.hid (show (Try.prog.info? 23).map (·.size) = some L.length by rw [hLl]; exact hi0)
  have HI1 := Lib.hid (show (Try.prog.info? 23).map (·.size) = some L1.length by rw [hL1l]; exact hi0)
  have HIA := Lib.hid (show (Try.prog.info? 23).map (·.size) = some L1.toArray.size by rw [List.size_toArray, hL1l]; exact hi0)
  have H1A := Lib.hid (all_oneCell_toArray h1L1)
  obtain ⟨Z, hZ⟩ : ∃ Z : Array Value, Z = Array.replicate 256 (.int .u8 0) := ⟨_, rfl⟩
  have hZs : Z.size = 256 := by rw [hZ]; simp
  have HZS : Hid (Z.size = L1.toArray.size) := Lib.hid (by rw [hZs, List.size_toArray, hL1l])
  have HZL : Hid (Z.size = L1.length) := Lib.hid (by rw [hZs, hL1l])
  have hz : ∀ w, (zeroValue 23).run Try.prog w = .ok (.agg Z) w := by rw [hZ]; exact (zero_of_info (P := Try.prog) (t := 23) (v := .agg (Array.replicate 256 (.int .u8 0))) (n := 256) (by kernel_rfl)).1
  have hk8 : (k : Int) < 8192 := by omega
  have hgd : Try.prog.eqGuardType Try.prog.depth 23 = false := by kernel_rfl
  have HF1 := Lib.hid HF1
  have HF2 := Lib.hid HF2
  have HCk := Lib.hid HCk
  obtain ⟨W, hW⟩ : ∃ W, W = w.alloc (.cells L.toArray 23) := ⟨_, rfl⟩
  obtain ⟨xb, hxb⟩ : ∃ xb, xb = w.heap.size := ⟨_, rfl⟩
  have hb0 : Below w.heap.size w W := by rw [hW]; exact (Below.refl _ _).alloc (Nat.le_refl _) _
  have hrg : W.rangeAt xb 0 L := range_row (by rw [hW, hxb]; exact heap_alloc_new w _)
  have hlx : xb < W.heap.size := by rw [hW, hxb]; simp
  rw [← hL]
  have HLX := Lib.hid hlx
  clear hd hf hff hn he hk hL1 hL hLl hL1l h1L1 hi0 hZ hZs hlx hRl hdl hfl hc ha
  go_enter Try.func6, Try.ntmps6
  go_wp2_with fail
  rw [← hW]
  simp only [← hxb]
  clear hW hxb
  have tok : True := trivial
  have tok2 : True := trivial
  go_wp2_with (first
    | (go_at_call 12; refine (ham_speaks _).mono ?_; rintro e9 w1 ⟨rfl, hb1⟩; have hr1 := range_below hrg hb1; have hq1 := hb0.trans (hb1.mono hb0.size); have hz1 := hb1.size)
    | (refine wpList_load_mid rfl 23 _ rfl xb 0 rfl L _ hr1 Try.underlying23 rfl HIL.out ?_)
    | (go_at_call 15; have _t := tok; refine (HF1.out _).mono ?_; rintro e9 w2 ⟨rfl, hb2⟩; have hr2 := range_below hr1 hb2; have hq2 := hq1.trans (hb2.mono hq1.size); have hz2 := hb2.size; clear tok _t)
    | (have _t := tok2; refine wpList_store_mid rfl 23 _ _ rfl w2.heap.size 0 L1.toArray rfl rfl (by have h := row_there (heap_alloc_new w2 (.cells Z 23)); exact (HZS.out ▸ h)) HIA.out H1A.out ?_; obtain ⟨w3, hw3⟩ : ∃ w' : World, w' = (w2.alloc (.cells Z 23)).setCells w2.heap.size 0 L1.toArray.toList := ⟨_, rfl⟩; have hthw3 : (w2.alloc (.cells Z 23)).there w2.heap.size 0 L1.length := (by have h := row_there (heap_alloc_new w2 (.cells Z 23)); exact (HZL.out ▸ h)); have hy3 : w3.rangeAt w2.heap.size 0 L1 := (by rw [hw3]; exact World.rangeAt_setCells_same _ _ _ _ hthw3); have hx3 : w3.rangeAt xb 0 L := (by rw [hw3]; exact World.rangeAt_setCells_apart (World.rangeAt_alloc hr2 _) _ _ _ (.inl (by have := HLX.out; omega))); have hq3 : Below w.heap.size w w3 := (by rw [hw3]; exact below_setC hq2.size _ _ (hq2.alloc hq2.size _)); have hz3 : w2.heap.size < w3.heap.size := (by rw [hw3]; exact size_setC _ _ _); clear tok2 _t; rw [← hw3]; clear hw3 hthw3)
    | (refine wpList_load_mid rfl 23 _ rfl xb 0 rfl L _ hx3 Try.underlying23 rfl HIL.out ?_)
    | (go_at_call 15; refine (HF2.out _).mono ?_; rintro e9 w4 ⟨rfl, hb4⟩; have hx4 := range_below hx3 hb4; have hy4 := range_below hy3 hb4; have hq4 := hq3.trans (hb4.mono hq3.size); have hz4 := hb4.size)
    | (refine wpList_store_mid rfl 23 _ _ rfl w4.heap.size 0 L1.toArray rfl rfl (by have h := row_there (heap_alloc_new w4 (.cells Z 23)); exact (HZS.out ▸ h)) HIA.out H1A.out ?_; obtain ⟨w5, hw5⟩ : ∃ w' : World, w' = (w4.alloc (.cells Z 23)).setCells w4.heap.size 0 L1.toArray.toList := ⟨_, rfl⟩; have hthw5 : (w4.alloc (.cells Z 23)).there w4.heap.size 0 L1.length := (by have h := row_there (heap_alloc_new w4 (.cells Z 23)); exact (HZL.out ▸ h)); have hv5 : w5.rangeAt w4.heap.size 0 L1 := (by rw [hw5]; exact World.rangeAt_setCells_same _ _ _ _ hthw5); have hx5 : w5.rangeAt xb 0 L := (by rw [hw5]; exact World.rangeAt_setCells_apart (World.rangeAt_alloc hx4 _) _ _ _ (.inl (by have := HLX.out; omega))); have hq5 : Below w.heap.size w w5 := (by rw [hw5]; exact below_setC hq4.size _ _ (hq4.alloc hq4.size _)); have hy5 : w5.rangeAt w2.heap.size 0 L1 := (by rw [hw5]; exact World.rangeAt_setCells_apart (World.rangeAt_alloc hy4 _) _ _ _ (.inl (by omega))); rw [← hw5]; clear hw5 hthw5)
    | (refine wpList_load_mid rfl 23 _ rfl w2.heap.size 0 rfl L1 _ hy5 Try.underlying23 rfl HI1.out ?_)
    | (refine wp_load_mid 23 _ rfl w2.heap.size 0 rfl L1 _ hy5 Try.underlying23 rfl HI1.out ?_)
    | (refine wpList_load_mid rfl 23 _ rfl w4.heap.size 0 rfl L1 _ hv5 Try.underlying23 rfl HI1.out ?_)
    | (refine wp_load_mid 23 _ rfl w4.heap.size 0 rfl L1 _ hv5 Try.underlying23 rfl HI1.out ?_)
    | (refine wpList_load_mid rfl 23 _ rfl xb 0 rfl L _ hx5 Try.underlying23 rfl HIL.out ?_)
    | (refine wp_load_mid 23 _ rfl xb 0 rfl L _ hx5 Try.underlying23 rfl HIL.out ?_)
    | (go_at_call 13; refine (HCk.out _).mono ?_; rintro e9 w6 ⟨rfl, hb6⟩; have hq6 := hq5.trans (hb6.mono hq5.size)))
  refine wp_load_mid 23 _ rfl xb 0 rfl L _ hx5 Try.underlying23 rfl HIL.out ?_
  go_wp2_with (go_at_call 13; refine (HCk.out _).mono ?_; rintro e9 w6 ⟨rfl, hb6⟩; have hq6 := hq5.trans (hb6.mono hq5.size))
  go_ret
  exact ⟨rfl, hq6⟩
end Go.Proofs.YtoeonmdcoiemmaaK

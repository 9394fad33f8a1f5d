import Derived.Test.YtljdfhckllncoaaKHamQ
namespace Go.Proofs.YtljdfhckllncoaaK
open Go.RowKit
set_option linter.unusedSimpArgs false
set_option linter.unusedVariables false
set_option maxRecDepth 100000 in
set_option maxHeartbeats 8000000 in
theorem rcheck_any (bs : List UInt8) (hl : bs.length = 256) (w : World) :
    Calls Try.prog 40 #[.agg (bs.map encB).toArray] w fun e w' => e = .returned (.int .i64 (chk bs : Int)) ∧ Below w.heap.size w w' := by
  have HBit := Lib.hid (fun (i : Nat) hi W => rbit_any bs hl i hi W)
  have HPow := Lib.hid (fun (n : Nat) h1 h2 W => rpower_any n h1 h2 W)
  have hCs : (bs.map encB).toArray.size = 256 := by simp [hl]
  obtain ⟨C, hC⟩ : ∃ C, C = (bs.map encB).toArray := ⟨_, rfl⟩
  rw [← hC] at HBit hCs
  rw [← hC]
  clear hC
  have hi0 : (Try.prog.info? 76).map (·.size) = some C.size := by rw [hCs]; kernel_rfl
  have HI := Lib.hid hi0
  clear hi0 hCs
  obtain ⟨W, hW⟩ : ∃ W, W = (w.alloc (.cells C 76)).alloc (.cells #[.int .i64 0, .int .i64 0, .int .i64 0, .int .i64 0, .int .i64 0, .int .i64 0, .int .i64 0, .int .i64 0, .int .i64 0, .int .i64 0, .int .i64 0, .int .i64 0] 106) := ⟨_, rfl⟩
  obtain ⟨xb, hxb⟩ : ∃ xb, xb = w.heap.size := ⟨_, rfl⟩
  obtain ⟨sb, hsb⟩ : ∃ sb, sb = xb + 1 := ⟨_, rfl⟩
  have hb0 : Below w.heap.size w W := by rw [hW]; exact ((Below.refl _ _).alloc (Nat.le_refl _) _).alloc (by simp) _
  have hrow : W.heap[xb]? = some (.cells C 76 (0, 0)) := by
    rw [hW, hxb]
    exact (((Below.refl _ (w.alloc (.cells C 76))).alloc (Nat.le_refl _) (.cells #[.int .i64 0, .int .i64 0, .int .i64 0, .int .i64 0, .int .i64 0, .int .i64 0, .int .i64 0, .int .i64 0, .int .i64 0, .int .i64 0, .int .i64 0, .int .i64 0] 106)).block w.heap.size (by simp)).trans (heap_alloc_new w _)
  have hsm : Sm W sb (fun j => sumJ bs j 0) := by
    have h0 := heap_alloc_new (w.alloc (.cells C 76)) (.cells #[.int .i64 0, .int .i64 0, .int .i64 0, .int .i64 0, .int .i64 0, .int .i64 0, .int .i64 0, .int .i64 0, .int .i64 0, .int .i64 0, .int .i64 0, .int .i64 0] 106)
    rw [show (w.alloc (.cells C 76)).heap.size = sb from by rw [hsb, hxb]; simp, ← hW] at h0
    exact h0
  have hxs : xb ≠ sb := by omega
  have hgx : w.heap.size ≤ xb := by rw [hxb]; exact Nat.le_refl _
  have hgs : w.heap.size ≤ sb := by omega
  have HG := Lib.hid (And.intro hxs (And.intro hgx hgs))
  go_enter Try.func40, Try.ntmps40
  go_wp2
  rw [← hW]
  simp only [← hxb]
  simp only [← hsb]
  clear hW hxb hsb hxs hgx hgs
  go_loopw [4, 5, 6, 7] (fun v4 v5 v6 v7 wr => ∃ (k t a : Nat), k ≤ 2048 ∧ t = foldT bs k ∧ a = prv k ∧ v6 = .int .i64 (k : Int) ∧ v4 = .int .i64 (t : Int) ∧ v5 = .int .i64 (a : Int) ∧ Sm wr sb (fun j => sumJ bs j k) ∧ wr.heap[xb]? = some (.cells C 76 (0, 0)) ∧ Below w.heap.size w wr) (fun _ _ v6 _ _ => 2048 - (intOf v6).toNat)
  case atStart => exact ⟨0, 0, 2, by omega, rfl, rfl, rfl, rfl, rfl, hsm, hrow, hb0⟩
  case round =>
    obtain ⟨k, t, a, hk, ht, ha, rfl, rfl, rfl, hsk, hrk, hbk⟩ := hrel
    clear hsm hrow hb0
    by_cases hlt : k < 2048
    · obtain ⟨hp1, hp2, hp3, hp4⟩ := next_at k hlt
      rw [← ha] at hp2 hp3 hp4
      have hki : (k : Int) < 2048 := by omega
      have hk0 : (0 : Int) ≤ k := by omega
      have htk : t ≤ k := by rw [ht]; exact foldT_le bs k
      have hpl := plc_lt k hlt
      have hp33 : 3 ≤ plc k := (plc_all ⟨k, hlt⟩).2
      have HT := Lib.hid ht
      have HA := Lib.hid ha
      obtain ⟨p, hp⟩ : ∃ p, p = plc k := ⟨_, rfl⟩
      rw [← hp] at hp1 hp2 hpl hp33
      have HP := Lib.hid hp
      clear ht ha hp
      have HN := Lib.hid hp2
      clear hp2
      go_wp2
      obtain ⟨wo, hwo⟩ : ∃ wo : World, wo = wr := ⟨_, rfl⟩
      rw [← hwo] at hsk hrk hbk
      rw [← hwo]
      clear hwo
      go_loopw [5] (fun v5 wr => ∃ q : Nat, v5 = .int .i64 (q : Int) ∧ (q = p ∨ (q = a + 1 ∧ isP q = true ∧ p = q + 1)) ∧ wr = wo) (fun v5 _ => 5000 - (intOf v5).toNat)
      case atStart =>
        refine ⟨a + 1, by go_num, ?_, rfl⟩
        rcases HN.out with h | h
        · exact .inl h.2.symm
        · exact .inr ⟨rfl, h.1, h.2⟩
      case round =>
        obtain ⟨q, rfl, hq, rfl⟩ := hrel
        by_cases hqp : q = p
        · subst hqp
          clear hq
          have HPq := Lib.hid (fun W => HPow.out q (by omega) (by omega) W)
          rw [hp1] at HPq
          have hrk2 := hrk
          have hsk2 := hsk
          have hbk2 := hbk
          have HB1 := Lib.hid (fun W => HBit.out k hlt W)
          have hdl := bitN_lt (bs.getD (k / 8) 0).toNat (k % 8)
          have hdl : dbit bs k < 2 := hdl
          have hfT : foldT bs (k + 1) = foldT bs k + dbit bs k := rfl
          have hsJ : ∀ j, sumJ bs j (k + 1) = sumJ bs j k + dbit bs k * bitN (plc k) j := fun j => rfl
          obtain ⟨d, hd⟩ : ∃ d, d = dbit bs k := ⟨_, rfl⟩
          rw [← hd] at HB1 hdl hfT
          rw [← HT.out] at hfT
          have HFT := Lib.hid hfT
          have HSJ : Hid (∀ j, sumJ bs j (k + 1) = sumJ bs j k + d * bitN q j) := Lib.hid (fun j => by rw [hsJ j, ← hd, ← HP.out])
          have HPV : Hid (q = prv (k + 1)) := Lib.hid (by unfold prv; rw [if_neg (by omega)]; exact HP.out)
          clear hsJ hfT hd
          by_cases hd0 : d = 0
          · subst hd0
            go_wp2_with (first
              | (go_at_call 59; refine (HPq.out _).mono ?_; rintro e w3 ⟨rfl, rfl⟩)
              | (refine wpList_load_row rfl 76 _ rfl xb rfl 76 C (0, 0) _ hrk2 Try.underlying76 rfl HI.out ?_)
              | (refine wp_load_row 76 _ rfl xb rfl 76 C (0, 0) _ hrk2 Try.underlying76 rfl HI.out ?_)
              | (go_at_call 60; refine (HB1.out _).mono ?_; rintro e w4 ⟨rfl, hb4⟩; have hb5 := hbk2.trans (hb4.mono hbk2.size); have hs5 := hsk2.below hb4; have hr5 := (hb4.block xb (Array.getElem?_eq_some_iff.1 hrk2).1).trans hrk2))
            go_roundw
            case rel => exact ⟨k + 1, t, q, by omega, by rw [HFT.out]; rfl, HPV.out, by go_num, rfl, rfl, hs5.congr (fun i _ => by rw [HSJ.out i]; simp), hr5, hb5⟩
            case measure => simp [intOf]; omega
          · obtain rfl : d = 1 := by omega
            go_wp2_with (first
              | (go_at_call 59; refine (HPq.out _).mono ?_; rintro e w3 ⟨rfl, rfl⟩)
              | (refine wpList_load_row rfl 76 _ rfl xb rfl 76 C (0, 0) _ hrk2 Try.underlying76 rfl HI.out ?_)
              | (refine wp_load_row 76 _ rfl xb rfl 76 C (0, 0) _ hrk2 Try.underlying76 rfl HI.out ?_)
              | (go_at_call 60; refine (HB1.out _).mono ?_; rintro e w4 ⟨rfl, hb4⟩; have hb5 := hbk2.trans (hb4.mono hbk2.size); have hs5 := hsk2.below hb4; have hr5 := (hb4.block xb (Array.getElem?_eq_some_iff.1 hrk2).1).trans hrk2))
            obtain ⟨wq, hwq⟩ : ∃ wq : World, wq = w4 := ⟨_, rfl⟩
            rw [← hwq] at hs5 hr5 hb5
            rw [← hwq]
            clear hwq hb4
            go_loopw [7] (fun v7 wr => ∃ j : Nat, j ≤ 12 ∧ v7 = .int .i64 (j : Int) ∧ Sm wr sb (fun i => if i < j then sumJ bs i (k + 1) else sumJ bs i k) ∧ wr.heap[xb]? = some (.cells C 76 (0, 0)) ∧ Below w.heap.size w wr) (fun v7 _ => 12 - (intOf v7).toNat)
            case atStart => exact ⟨0, by omega, rfl, hs5.congr (fun i _ => by simp), hr5, hb5⟩
            case round =>
              obtain ⟨j, hj, rfl, hsj, hrj, hbj⟩ := hrel
              by_cases hj12 : j < 12
              · obtain ⟨hcell, hfr⟩ := hsj.cell j hj12
                rw [if_neg (Nat.lt_irrefl j)] at hcell
                have hgk := sumJ_le bs j k
                obtain ⟨g, hg⟩ : ∃ g, g = sumJ bs j k := ⟨_, rfl⟩
                rw [← hg] at hcell hgk
                have hbit := bitI q j hpl
                have hbl := bitN_lt q j
                have hnew : sumJ bs j (k + 1) = g + bitN q j := by rw [HSJ.out j, hg]; omega
                obtain ⟨b, hb⟩ : ∃ b, b = bitN q j := ⟨_, rfl⟩
                rw [← hb] at hbit hbl hnew
                have hset := hsj.set (f' := fun i => if i < j + 1 then sumJ bs i (k + 1) else sumJ bs i k) j hj12 (fun i hi hne => by
                  by_cases h : i < j
                  · rw [if_pos h, if_pos (by omega)]
                  · rw [if_neg h, if_neg (by omega)])
                simp only [if_pos (Nat.lt_succ_self j)] at hset
                rw [hnew] at hset
                have hr2 : ((wr.setCell ⟨sb, j, none⟩ (.int .i64 ((g + b : Nat) : Int))).heap[xb]? = some (.cells C 76 (0, 0))) := by rw [Below.heap_setCell _ _ _ _ HG.out.1]; exact hrj
                have hb2 := hbj.setCell (p := ⟨sb, j, none⟩) HG.out.2.2 (.int .i64 ((g + b : Nat) : Int))
                have HSET := Lib.hid (And.intro hset (And.intro hr2 hb2))
                have hji : (j : Int) < 12 := by omega
                have hj0 : (0 : Int) ≤ j := by omega
                clear hset hr2 hb2 hnew hg hb hsj hrj hbj hs5 hr5 hb5
                go_wp2
                go_roundw
                case rel => exact ⟨j + 1, by omega, by go_num, HSET.out.1, HSET.out.2.1, HSET.out.2.2⟩
                case measure => simp [intOf]; omega
              · obtain rfl : j = 12 := by omega
                go_wp2
                go_roundw
                case rel => exact ⟨k + 1, t + 1, q, by omega, HFT.out.symm, HPV.out, by go_num, by go_num, rfl, hsj.congr (fun i hi => by rw [if_pos hi]), hrj, hbj⟩
                case measure => simp [intOf]; omega
        · obtain ⟨h1, h2, h3⟩ : q = a + 1 ∧ isP q = true ∧ p = q + 1 := by
            rcases hq with h | h
            · exact absurd h hqp
            · exact h
          have HPq := Lib.hid (fun W => HPow.out q (by omega) (by omega) W)
          rw [h2] at HPq
          have H3 := Lib.hid h3
          have hqb : q < 4100 := by omega
          clear hq h1 h2 h3
          go_wp2_with (go_at_call 59; refine (HPq.out _).mono ?_; rintro e w3 ⟨rfl, rfl⟩)
          go_roundw
          case rel => exact ⟨q + 1, by go_num, .inl H3.out.symm, trivial⟩
          case measure =>
            have h5 := H3.out
            simp [intOf]
            omega
    · obtain rfl : k = 2048 := by omega
      have hx := foldS_lt bs 2048 (Nat.le_refl _)
      have hSm := fun j => sumJ_mod bs j 2048
      have hSl := fun j => sumJ_le bs j 2048
      have hce : chk bs = foldS bs 2048 + 4096 * ((foldT bs 2048 % 2 + pc (foldS bs 2048)) % 2) := rfl
      rw [← ht] at hce
      have htk : t ≤ 2048 := by rw [ht]; exact foldT_le bs 2048
      obtain ⟨x, hxe⟩ : ∃ x, x = foldS bs 2048 := ⟨_, rfl⟩
      rw [← hxe] at hx hce
      have HSM : Hid (∀ j, sumJ bs j 2048 % 2 = bitN x j) := Lib.hid (fun j => by rw [hxe]; exact hSm j)
      have HSL := Lib.hid hSl
      have HCE := Lib.hid hce
      clear hSm hSl hce ht ha hxe
      go_wp2
      obtain ⟨wo, hwo⟩ : ∃ wo : World, wo = wr := ⟨_, rfl⟩
      rw [← hwo] at hsk hrk hbk
      rw [← hwo]
      clear hwo
      go_loopw [4, 8, 9] (fun v4 v8 v9 wr => ∃ m : Nat, m ≤ 12 ∧ v9 = .int .i64 (m : Int) ∧ v8 = .int .i64 (outS x m : Int) ∧ v4 = .int .i64 ((t + pcTo x m : Nat) : Int) ∧ wr = wo) (fun _ _ v9 _ => 12 - (intOf v9).toNat)
      case atStart => exact ⟨0, by omega, rfl, rfl, rfl, rfl⟩
      case round =>
        obtain ⟨m, hm, rfl, rfl, rfl, rfl⟩ := hrel
        have hol : outS x m < 4096 := by rw [outS_mod]; exact Nat.lt_of_le_of_lt (Nat.mod_le _ _) hx
        have hpl := pcTo_le x m
        by_cases hm12 : m < 12
        · obtain ⟨hcell, _⟩ := hsk.cell m hm12
          have hm2 := HSM.out m
          have hml := HSL.out m
          obtain ⟨g, hg⟩ : ∃ g, g = sumJ bs m 2048 := ⟨_, rfl⟩
          rw [← hg] at hcell hm2 hml
          have hbl := bitN_lt x m
          have hoe : outS x (m + 1) = outS x m + bitN x m * 2 ^ m := rfl
          have hpe : pcTo x (m + 1) = pcTo x m + bitN x m := rfl
          obtain ⟨b, hb⟩ : ∃ b, b = bitN x m := ⟨_, rfl⟩
          obtain ⟨o, ho⟩ : ∃ o, o = outS x m := ⟨_, rfl⟩
          obtain ⟨u, hu⟩ : ∃ u, u = t + pcTo x m := ⟨_, rfl⟩
          rw [← hb] at hm2 hbl hoe hpe
          rw [← ho] at hoe hol ⊢
          have hue : t + pcTo x (m + 1) = u + b := by rw [hpe, hu]; omega
          rw [← hu]
          have hu2 : u ≤ 2060 := by omega
          have hmod : (g : Int).tmod 2 = (b : Int) := by
            have : (g : Int).tmod 2 = ((g % 2 : Nat) : Int) := rfl
            rw [this, hm2]
          have hmod2 : (g : Int) % 2 = (b : Int) := by omega
          have hmi : (m : Int) < 12 := by omega
          have hm0 : (0 : Int) ≤ m := by omega
          have h2m : 2 ^ m ≤ 2048 := Nat.pow_le_pow_right (n := 2) (by decide) (show m ≤ 11 by omega)
          obtain ⟨c, hc⟩ : ∃ c, c = b * 2 ^ m := ⟨_, rfl⟩
          have hcl : c ≤ 2048 := by
            rw [hc]
            have : b * 2 ^ m ≤ 1 * 2048 := Nat.mul_le_mul (by omega) h2m
            omega
          have hci : (b : Int) * (2 : Int) ^ m = (c : Int) := by rw [hc]; simp
          rw [← hc] at hoe
          have HOE := Lib.hid hoe
          have HUE := Lib.hid hue
          clear hoe hue hpe hg hb ho hu hc hm2 hsk hrk hbk
          go_wp2
          go_roundw
          case rel => exact ⟨m + 1, by omega, by go_num, by rw [HOE.out]; go_num, by rw [HUE.out]; go_num, trivial⟩
          case measure => simp [intOf]; omega
        · obtain rfl : m = 12 := by omega
          have e1 : outS x 12 = x := by rw [outS_mod]; exact Nat.mod_eq_of_lt hx
          have e2 : pcTo x 12 = pc x := pcTo_12 x
          rw [e1, e2]
          have hp := pc_le x
          obtain ⟨T, hT⟩ : ∃ T, T = t + pc x := ⟨_, rfl⟩
          have hce : chk bs = x + 4096 * (T % 2) := by rw [HCE.out, hT]; omega
          rw [← hT]
          have hT2 : T ≤ 2060 := by omega
          obtain ⟨e, he⟩ : ∃ e, e = T % 2 := ⟨_, rfl⟩
          rw [← he] at hce
          have hmod : (T : Int).tmod 2 = (e : Int) := by rw [he]; rfl
          have hmod2 : (T : Int) % 2 = (e : Int) := by omega
          have hel : e < 2 := by omega
          have hci : (chk bs : Int) = (x : Int) + (e : Int) * 4096 := by rw [hce]; omega
          have HCI := Lib.hid hci
          clear e1 e2 hT hce he hci hsk hrk hol hpl
          go_wp2
          go_ret
          exact ⟨by rw [HCI.out]; rfl, hbk⟩
end Go.Proofs.YtljdfhckllncoaaK

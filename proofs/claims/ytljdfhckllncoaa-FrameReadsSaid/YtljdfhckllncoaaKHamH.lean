import Derived.Test.YtljdfhckllncoaaKHamG
namespace Go.Proofs.YtljdfhckllncoaaK
open Go.RowKit
set_option linter.unusedSimpArgs false
set_option linter.unusedVariables false
set_option maxRecDepth 100000 in
set_option maxHeartbeats 8000000 in
theorem rfix_any (bs : List UInt8) (hl : bs.length = 256) (c : Nat) (hc : c < 65536) (w : World) :
    Calls Try.prog 48 #[.agg (bs.map encB).toArray, .int .i64 (c : Int)] w fun e w' => e = .returned (.tuple #[.agg ((fixR bs c).1.map encB).toArray, .int .i64 ((fixR bs c).2.1 : Int), .int .i64 ((fixR bs c).2.2 : Int)]) ∧ Below w.heap.size w w' := by
  have HR := fun W => rcheck_any bs hl W
  have HBt := fun i hi W => rbit_any bs hl i hi W
  have hkl := chk_lt bs
  obtain ⟨K, hK⟩ : ∃ K, K = chk bs := ⟨_, rfl⟩
  have hXl := chk_low bs c
  rw [← hK] at HR hkl hXl
  obtain ⟨X, hX⟩ : ∃ X, X = K ^^^ c := ⟨_, rfl⟩
  rw [← hX] at hXl
  have hi0 : (Try.prog.info? 76).map (·.size) = some 256 := by kernel_rfl
  obtain ⟨C, hC⟩ : ∃ C, C = (bs.map encB).toArray := ⟨_, rfl⟩
  have hCs : C.size = 256 := by rw [hC]; simp [hl]
  have h1C : C.all (·.oneCell') = true := by rw [hC]; exact all_oneCell_toArray (encB_all bs)
  obtain ⟨Z, hZ⟩ : ∃ Z : Array Value, Z = Array.replicate 256 (.int .u8 0) := ⟨_, rfl⟩
  have hZs : Z.size = 256 := by rw [hZ]; simp
  have h1Z : Z.all (·.oneCell') = true := by rw [hZ]; decide +kernel
  have hZe : (zeroD.map encB).toArray = Z := by rw [hZ]; kernel_rfl
  have hz : ∀ w, (zeroValue 76).run Try.prog w = .ok (.agg Z) w := by rw [hZ]; exact (zero_of_info (P := Try.prog) (t := 76) (v := .agg (Array.replicate 256 (.int .u8 0))) (n := 256) (by kernel_rfl)).1
  have HI := Lib.hid (show (Try.prog.info? 76).map (·.size) = some C.size by rw [hCs]; exact hi0)
  have HIZ := Lib.hid (show (Try.prog.info? 76).map (·.size) = some Z.size by rw [hZs]; exact hi0)
  have H1C := Lib.hid h1C
  have H1Z := Lib.hid h1Z
  obtain ⟨W, hW⟩ : ∃ W, W = (w.alloc (.cells C 76)).alloc (.cells Z 76) := ⟨_, rfl⟩
  obtain ⟨xb, hxb⟩ : ∃ xb, xb = w.heap.size := ⟨_, rfl⟩
  obtain ⟨rb, hrb⟩ : ∃ rb, rb = xb + 1 := ⟨_, rfl⟩
  have hb0 : Below w.heap.size w W := by rw [hW]; exact ((Below.refl _ _).alloc (Nat.le_refl _) _).alloc (by simp) _
  have hrx : W.heap[xb]? = some (.cells C 76 (0, 0)) := by
    rw [hW, hxb]
    exact (((Below.refl _ (w.alloc (.cells C 76))).alloc (Nat.le_refl _) (.cells Z 76)).block w.heap.size (by simp)).trans (heap_alloc_new w _)
  have hrr : W.heap[rb]? = some (.cells Z 76 (0, 0)) := by
    have h0 := heap_alloc_new (w.alloc (.cells C 76)) (.cells Z 76)
    rw [show (w.alloc (.cells C 76)).heap.size = rb from by rw [hrb, hxb]; simp, ← hW] at h0
    exact h0
  have HGR := Lib.hid (show w.heap.size ≤ rb by omega)
  have HGX := Lib.hid (show w.heap.size ≤ xb by omega)
  have HNE := Lib.hid (show xb ≠ rb by omega)
  have HCE := Lib.hid hC
  have HZE := Lib.hid hZe
  rw [← hC] at HR HBt ⊢
  have HR := Lib.hid HR
  have HBt := Lib.hid HBt
  have HXL := Lib.hid hXl
  have HX := Lib.hid hX
  have HZS := Lib.hid hZs
  have HSZ : Hid (Z.size = C.size) := Lib.hid (by rw [hZs, hCs])
  clear hi0 hC hCs h1C hZ hZs h1Z hZe hXl hX hK
  go_enter Try.func48, Try.ntmps48
  go_wp2_with fail
  rw [← hW]
  simp only [← hxb]
  simp only [← hrb]
  clear hW hxb hrb
  refine wp_load_row 76 _ rfl xb rfl 76 C (0, 0) _ hrx Try.underlying76 rfl HI.out ?_
  go_wp2_with (first
    | (go_at_call 40; refine (HR.out _).mono ?_; rintro e9 w1 ⟨rfl, hb1⟩; have hq1 := hb0.trans (hb1.mono hb0.size); have hrx1 := (hb1.block xb (Array.getElem?_eq_some_iff.1 hrx).1).trans hrx; have hrr1 := (hb1.block rb (Array.getElem?_eq_some_iff.1 hrr).1).trans hrr))
  obtain ⟨wo, hwo⟩ : ∃ wo : World, wo = w1 := ⟨_, rfl⟩
  rw [← hwo] at hq1 hrx1 hrr1
  rw [← hwo]
  clear hwo hb1 hrx hrr hb0
  go_loopw [8, 10] (fun v8 v10 wr => ∃ m : Nat, m ≤ 12 ∧ v10 = .int .i64 (m : Int) ∧ v8 = .int .i64 (outS X m : Int) ∧ wr = wo) (fun _ v10 _ => 12 - (intOf v10).toNat)
  case atStart => exact ⟨0, by omega, rfl, rfl, rfl⟩
  case round =>
    obtain ⟨m, hm, rfl, rfl, rfl⟩ := hrel
    have hol : outS X m < 4096 := by
      rw [outS_mod]
      have h1 : 0 < 2 ^ m := Nat.pow_pos (by decide)
      have h2 := Nat.mod_lt X h1
      have h3 : 2 ^ m ≤ 2 ^ 12 := Nat.pow_le_pow_right (by decide) hm
      omega
    by_cases hm12 : m < 12
    · have y1 := bitJ K m (by omega)
      have y2 := bitJ c m hc
      have y3 := bit_xor_bit K c m
      rw [← HX.out] at y3
      have l3 := bitN_lt X m
      have l1 := bitN_lt K m
      have l2 := bitN_lt c m
      have hoe : outS X (m + 1) = outS X m + bitN X m * 2 ^ m := rfl
      obtain ⟨b1, hb1⟩ : ∃ b, b = bitN K m := ⟨_, rfl⟩
      obtain ⟨b2, hb2⟩ : ∃ b, b = bitN c m := ⟨_, rfl⟩
      obtain ⟨b3, hb3⟩ : ∃ b, b = bitN X m := ⟨_, rfl⟩
      obtain ⟨o, ho⟩ : ∃ o, o = outS X m := ⟨_, rfl⟩
      rw [← hb1] at y1 y3 l1
      rw [← hb2] at y2 y3 l2
      rw [← hb3] at y3 l3 hoe
      rw [← ho] at hoe hol ⊢
      have h2m : 2 ^ m ≤ 2048 := Nat.pow_le_pow_right (n := 2) (by decide) (show m ≤ 11 by omega)
      obtain ⟨c3, hc3⟩ : ∃ c3, c3 = b3 * 2 ^ m := ⟨_, rfl⟩
      have hcl : c3 ≤ 2048 := by
        rw [hc3]
        have : b3 * 2 ^ m ≤ 1 * 2048 := Nat.mul_le_mul (by omega) h2m
        omega
      have hci : (b3 : Int) * (2 : Int) ^ m = (c3 : Int) := by rw [hc3]; simp
      rw [← hc3] at hoe
      have HOE := Lib.hid hoe
      have hmi : (m : Int) < 12 := by omega
      have hm0 : (0 : Int) ≤ m := by omega
      clear hoe hb1 hb2 hb3 ho hc3 hq1 hrx1 hrr1
      go_wp2
      go_roundw
      case rel => exact ⟨m + 1, by omega, by go_num, by rw [HOE.out]; go_num, trivial⟩
      case measure => simp [intOf]; omega
    · obtain rfl : m = 12 := by omega
      have hse : outS X 12 = foldS bs 2048 ^^^ (c % 4096) := by rw [outS_mod]; exact HXL.out
      rw [hse, show ((12 : Nat) : Int) = 12 from rfl]
      obtain ⟨s, hs⟩ : ∃ s, s = foldS bs 2048 ^^^ (c % 4096) := ⟨_, rfl⟩
      have hsl : s < 4096 := by rw [hs]; exact Nat.xor_lt_two_pow (n := 12) (foldS_lt bs 2048 (Nat.le_refl _)) (by omega)
      rw [← hs]
      have HS := Lib.hid hs
      clear hs hse hol
      go_wp2
      obtain ⟨w2, hw2⟩ : ∃ w2 : World, w2 = wr := ⟨_, rfl⟩
      rw [← hw2] at hq1 hrx1 hrr1
      rw [← hw2]
      clear hw2
      go_loopw [9, 11] (fun v9 v11 wr => ∃ (i t : Nat), i ≤ 2048 ∧ v11 = .int .i64 (i : Int) ∧ t = foldT bs i ∧ v9 = .int .i64 (t : Int) ∧ wr.heap[xb]? = some (.cells C 76 (0, 0)) ∧ wr.heap[rb]? = some (.cells Z 76 (0, 0)) ∧ Below w.heap.size w wr) (fun _ v11 _ => 2048 - (intOf v11).toNat)
      case atStart => exact ⟨0, 0, by omega, rfl, rfl, rfl, hrx1, hrr1, hq1⟩
      case round =>
        obtain ⟨i, t, hi, rfl, ht, rfl, hrxi, hrri, hqi⟩ := hrel
        clear hq1 hrx1 hrr1
        have htl : t ≤ 2048 := by rw [ht]; exact Nat.le_trans (foldT_le bs i) hi
        by_cases hi2 : i < 2048
        · have HB1 := Lib.hid (fun W => HBt.out i hi2 W)
          have hdl : dbit bs i < 2 := bitN_lt _ _
          have hte : foldT bs (i + 1) = foldT bs i + dbit bs i := rfl
          rw [← ht] at hte
          obtain ⟨d, hd⟩ : ∃ d, d = dbit bs i := ⟨_, rfl⟩
          rw [← hd] at HB1 hdl hte
          have HTE := Lib.hid hte
          have hii : (i : Int) < 2048 := by omega
          have hi0 : (0 : Int) ≤ i := by omega
          clear hte hd ht
          go_wp2_with (first
            | (refine wpList_load_row rfl 76 _ rfl xb rfl 76 C (0, 0) _ hrxi Try.underlying76 rfl HI.out ?_)
            | (go_at_call 60; refine (HB1.out _).mono ?_; rintro e9 w4 ⟨rfl, hb4⟩; have hq4 := hqi.trans (hb4.mono hqi.size); have hrx4 := (hb4.block xb (Array.getElem?_eq_some_iff.1 hrxi).1).trans hrxi; have hrr4 := (hb4.block rb (Array.getElem?_eq_some_iff.1 hrri).1).trans hrri))
          go_roundw
          case rel => exact ⟨i + 1, t + d, by omega, by go_num, HTE.out.symm, by go_num, hrx4, hrr4, hq4⟩
          case measure => simp [intOf]; omega
        · obtain rfl : i = 2048 := by omega
          have HT := Lib.hid ht
          clear ht
          rw [show ((2048 : Nat) : Int) = 2048 from rfl]
          go_wp2
          obtain ⟨w3, hw3⟩ : ∃ w3 : World, w3 = wr := ⟨_, rfl⟩
          rw [← hw3] at hrxi hrri hqi
          rw [← hw3]
          clear hw3
          go_loopw [9, 12] (fun v9 v12 wr => ∃ m : Nat, m ≤ 13 ∧ v12 = .int .i64 (m : Int) ∧ v9 = .int .i64 ((t + pcTo c m : Nat) : Int) ∧ wr = w3) (fun _ v12 _ => 13 - (intOf v12).toNat)
          case atStart => exact ⟨0, by omega, rfl, rfl, rfl⟩
          case round =>
            obtain ⟨m, hm, rfl, rfl, rfl⟩ := hrel
            have hpl := pcTo_le c m
            by_cases hm13 : m < 13
            · have y2 := bitJ c m hc
              have l2 := bitN_lt c m
              have hpe : pcTo c (m + 1) = pcTo c m + bitN c m := rfl
              obtain ⟨b2, hb2⟩ : ∃ b, b = bitN c m := ⟨_, rfl⟩
              obtain ⟨u, hu⟩ : ∃ u, u = t + pcTo c m := ⟨_, rfl⟩
              rw [← hb2] at y2 l2 hpe
              have hue : t + pcTo c (m + 1) = u + b2 := by rw [hpe, hu]; omega
              rw [← hu]
              have hu2 : u ≤ 2061 := by omega
              have HUE := Lib.hid hue
              have hmi : (m : Int) < 13 := by omega
              have hm0 : (0 : Int) ≤ m := by omega
              clear hue hpe hu hb2 hrxi hrri hqi
              go_wp2
              go_roundw
              case rel => exact ⟨m + 1, by omega, by go_num, by rw [HUE.out]; go_num, trivial⟩
              case measure => simp [intOf]; omega
            · obtain rfl : m = 13 := by omega
              obtain ⟨p, hp⟩ : ∃ p, p = t + pcTo c 13 := ⟨_, rfl⟩
              rw [← hp, show ((13 : Nat) : Int) = 13 from rfl]
              have hp2 : p ≤ 2061 := by omega
              obtain ⟨o, ho⟩ : ∃ o, o = p % 2 := ⟨_, rfl⟩
              have hoe : o = (foldT bs 2048 % 2 + pc16 (c % 8192)) % 2 := by
                have := pc16_par c
                rw [ho, hp, HT.out]; omega
              have hm1 : (p : Int).tmod 2 = (o : Int) := by rw [ho]; rfl
              have hm2 : (p : Int) % 2 = (o : Int) := by omega
              have hol : o < 2 := by omega
              have HO := Lib.hid hoe
              clear hp ho hoe hpl
              have hfx : fixR bs c = (if s = 0 ∧ o = 0 then (bs, 0, 0) else if o = 0 then (zeroD, 0, 21) else if powB s = true then (bs, 1, 0) else if 2048 ≤ s - 1 - Lib.bitLen s then (zeroD, 0, 21) else (flipD bs (s - 1 - Lib.bitLen s), 1, 0)) := by
                unfold fixR; rw [← HS.out, ← HO.out]
              have HFX := Lib.hid hfx
              have hpw := pow_all ⟨s, hsl⟩
              simp only at hpw
              clear hfx
              by_cases h0 : o = 0
              · subst h0
                by_cases h1 : s = 0
                · subst h1
                  have HR0 : Hid (fixR bs c = (bs, 0, 0)) := Lib.hid (by rw [HFX.out]; rfl)
                  go_wp2_with (first
                    | (refine wpList_load_row rfl 76 _ rfl xb rfl 76 C (0, 0) _ hrxi Try.underlying76 rfl HI.out ?_)
                    | (refine wpList_store_mid rfl 76 _ _ rfl rb 0 C rfl rfl (by have h := row_there hrri; exact (HSZ.out ▸ h)) HI.out H1C.out ?_))
                  have hth : wr.there rb 0 C.toList.length := by have h := row_there hrri; rw [Array.length_toList]; exact (HSZ.out ▸ h)
                  have HLD := Lib.hid (run_loadVar_mid (P := Try.prog) (wr.setCells rb 0 C.toList) rb 0 76 C.toList _ (World.rangeAt_setCells_same _ _ _ _ hth) Try.underlying76 rfl (by rw [Array.length_toList]; exact HI.out))
                  rw [Array.toArray_toList] at HLD
                  have hqf := below_setC HGR.out C.toList 0 hqi
                  refine bodyPost_ret (v := .tuple #[.agg C, .int .i64 0, .int .i64 0]) ?_ rfl ⟨by rw [HR0.out, HCE.out]; rfl, hqf⟩
                  rw [results_cell_tmp2 rfl]
                  simp [asAddr, Result.andThen, HLD.out]
                · have hs0 : ((s : Int) == 0) = false := by rw [beq_eq_false_iff_ne]; omega
                  have HR0 : Hid (fixR bs c = (zeroD, 0, 21)) := Lib.hid (by rw [HFX.out, if_neg (fun h => h1 h.1), if_pos rfl])
                  clear hpw
                  go_wp2_with (first
                    | (refine wpList_store_mid rfl 76 _ _ rfl rb 0 Z rfl rfl (by have h := row_there hrri; exact h) HIZ.out H1Z.out ?_))
                  have hth : wr.there rb 0 Z.toList.length := by have h := row_there hrri; rw [Array.length_toList]; exact h
                  have HLD := Lib.hid (run_loadVar_mid (P := Try.prog) (wr.setCells rb 0 Z.toList) rb 0 76 Z.toList _ (World.rangeAt_setCells_same _ _ _ _ hth) Try.underlying76 rfl (by rw [Array.length_toList]; exact HIZ.out))
                  rw [Array.toArray_toList] at HLD
                  have hqf := below_setC HGR.out Z.toList 0 hqi
                  refine bodyPost_ret (v := .tuple #[.agg Z, .int .i64 0, .int .i64 21]) ?_ rfl ⟨by rw [HR0.out, ← HZE.out]; rfl, hqf⟩
                  rw [results_cell_tmp2 rfl]
                  simp [asAddr, Result.andThen, HLD.out]
              · obtain rfl : o = 1 := by omega
                by_cases h1 : s = 0
                · subst h1
                  have HR0 : Hid (fixR bs c = (bs, 1, 0)) := Lib.hid (by rw [HFX.out, if_neg (fun h => h0 h.2), if_neg h0, if_pos (by decide)])
                  clear hpw
                  go_wp2_with (first
                    | (refine wpList_load_row rfl 76 _ rfl xb rfl 76 C (0, 0) _ hrxi Try.underlying76 rfl HI.out ?_)
                    | (refine wpList_store_mid rfl 76 _ _ rfl rb 0 C rfl rfl (by have h := row_there hrri; exact (HSZ.out ▸ h)) HI.out H1C.out ?_))
                  have hth : wr.there rb 0 C.toList.length := by have h := row_there hrri; rw [Array.length_toList]; exact (HSZ.out ▸ h)
                  have HLD := Lib.hid (run_loadVar_mid (P := Try.prog) (wr.setCells rb 0 C.toList) rb 0 76 C.toList _ (World.rangeAt_setCells_same _ _ _ _ hth) Try.underlying76 rfl (by rw [Array.length_toList]; exact HI.out))
                  rw [Array.toArray_toList] at HLD
                  have hqf := below_setC HGR.out C.toList 0 hqi
                  refine bodyPost_ret (v := .tuple #[.agg C, .int .i64 1, .int .i64 0]) ?_ rfl ⟨by rw [HR0.out, HCE.out]; rfl, hqf⟩
                  rw [results_cell_tmp2 rfl]
                  simp [asAddr, Result.andThen, HLD.out]
                · have hs0 : ((s : Int) == 0) = false := by rw [beq_eq_false_iff_ne]; omega
                  rw [decide_eq_false h1, Bool.false_or] at hpw
                  have HPw := Lib.hid (fun W => rpower_any s (by omega) (by omega) W)
                  rw [← hpw] at HPw
                  by_cases h2 : powB s = true
                  · rw [h2] at HPw
                    have HR0 : Hid (fixR bs c = (bs, 1, 0)) := Lib.hid (by rw [HFX.out, if_neg (fun h => h0 h.2), if_neg h0, if_pos h2])
                    clear hpw
                    go_wp2_with (first
                      | (go_at_call 59; refine (HPw.out _).mono ?_; rintro e9 w8 ⟨rfl, hw8⟩; subst hw8)
                      | (refine wpList_load_row rfl 76 _ rfl xb rfl 76 C (0, 0) _ hrxi Try.underlying76 rfl HI.out ?_)
                      | (refine wpList_store_mid rfl 76 _ _ rfl rb 0 C rfl rfl (by have h := row_there hrri; exact (HSZ.out ▸ h)) HI.out H1C.out ?_))
                    have hth : wr.there rb 0 C.toList.length := by have h := row_there hrri; rw [Array.length_toList]; exact (HSZ.out ▸ h)
                    have HLD := Lib.hid (run_loadVar_mid (P := Try.prog) (wr.setCells rb 0 C.toList) rb 0 76 C.toList _ (World.rangeAt_setCells_same _ _ _ _ hth) Try.underlying76 rfl (by rw [Array.length_toList]; exact HI.out))
                    rw [Array.toArray_toList] at HLD
                    have hqf := below_setC HGR.out C.toList 0 hqi
                    refine bodyPost_ret (v := .tuple #[.agg C, .int .i64 1, .int .i64 0]) ?_ rfl ⟨by rw [HR0.out, HCE.out]; rfl, hqf⟩
                    rw [results_cell_tmp2 rfl]
                    simp [asAddr, Result.andThen, HLD.out]
                  · have h3 : powB s = false := by simpa using h2
                    rw [h3] at HPw
                    have hfd := find_all ⟨s, hsl⟩
                    unfold findOK at hfd
                    simp only [h3, Bool.false_or, Bool.or_eq_true, decide_eq_true_eq] at hfd
                    obtain ⟨i0, hi0⟩ : ∃ i0, i0 = s - 1 - Lib.bitLen s := ⟨_, rfl⟩
                    rw [← hi0] at hfd
                    have HFX2 : Hid (fixR bs c = if 2048 ≤ i0 then (zeroD, 0, 21) else (flipD bs i0, 1, 0)) := Lib.hid (by rw [HFX.out, if_neg (fun h => h0 h.2), if_neg h0, if_neg h2, ← hi0])
                    have HI0 := Lib.hid hi0
                    have HFD := Lib.hid hfd
                    clear hpw hi0 hfd h2 h3
                    have HPow := Lib.hid (fun (n : Nat) h1 h2 W => rpower_any n h1 h2 W)
                    go_wp2_with (go_at_call 59; refine (HPw.out _).mono ?_; rintro e9 w8 ⟨rfl, hw8⟩; subst hw8)
                    obtain ⟨wz, hwz⟩ : ∃ wz : World, wz = wr := ⟨_, rfl⟩
                    rw [← hwz] at hrxi hrri hqi
                    rw [← hwz]
                    clear hwz
                    go_loopw [13, 14] (fun v13 v14 wr => ∃ (k a : Nat), k ≤ 2048 ∧ v14 = .int .i64 (k : Int) ∧ a = prv k ∧ v13 = .int .i64 (a : Int) ∧ k ≤ i0 ∧ wr = wz) (fun _ v14 _ => 2048 - (intOf v14).toNat)
                    case atStart => exact ⟨0, 2, by omega, rfl, rfl, rfl, Nat.zero_le _, rfl⟩
                    case round =>
                      obtain ⟨k, a, hk, rfl, ha, rfl, hki0, rfl⟩ := hrel
                      by_cases hlt : k < 2048
                      · obtain ⟨hp1, hp2, hp3, hp4⟩ := next_at k hlt
                        rw [← ha] at hp2 hp3 hp4
                        have hki : (k : Int) < 2048 := by omega
                        have hk0 : (0 : Int) ≤ k := by omega
                        have hpl := plc_lt k hlt
                        have hp33 : 3 ≤ plc k := (plc_all ⟨k, hlt⟩).2
                        obtain ⟨p, hp⟩ : ∃ p, p = plc k := ⟨_, rfl⟩
                        rw [← hp] at hp1 hp2 hpl hp33
                        have HP := Lib.hid hp
                        clear ha hp
                        have HN := Lib.hid hp2
                        clear hp2
                        go_wp2
                        obtain ⟨wy, hwy⟩ : ∃ wy : World, wy = wr := ⟨_, rfl⟩
                        rw [← hwy] at hrxi hrri hqi
                        rw [← hwy]
                        have HWY := Lib.hid hwy
                        clear hwy
                        go_loopw [13] (fun v13 wr => ∃ q : Nat, v13 = .int .i64 (q : Int) ∧ (q = p ∨ (q = a + 1 ∧ isP q = true ∧ p = q + 1)) ∧ wr = wy) (fun v13 _ => 5000 - (intOf v13).toNat)
                        case atStart =>
                          refine ⟨a + 1, by go_num, ?_, rfl⟩
                          rcases HN.out with h | h
                          · exact .inl h.2.symm
                          · exact .inr ⟨rfl, h.1, h.2⟩
                        case round =>
                          obtain ⟨q, rfl, hq, rfl⟩ := hrel
                          by_cases hqp : q = p
                          · subst hqp
                            clear hq
                            have HPq := Lib.hid (fun W => HPow.out q (by omega) (by omega) W)
                            rw [hp1] at HPq
                            have HPV : Hid (q = prv (k + 1)) := Lib.hid (by unfold prv; rw [if_neg (by omega)]; exact HP.out)
                            by_cases hqs : q = s
                            · have hik : i0 = k := by
                                have h1 := back_all ⟨k, hlt⟩
                                simp only at h1
                                rw [HI0.out, ← hqs, HP.out]; exact h1
                              have HR0 : Hid (fixR bs c = (flipD bs k, 1, 0)) := Lib.hid (by rw [HFX2.out, hik, if_neg (by omega)])
                              have hqsi : ((q : Int) == (s : Int)) = true := by rw [hqs]; simp
                              obtain ⟨q8, hq8⟩ : ∃ q8, q8 = k / 8 := ⟨_, rfl⟩
                              obtain ⟨r8, hr8⟩ : ∃ r8, r8 = k % 8 := ⟨_, rfl⟩
                              have x5 : (k : Int).tdiv 8 = (q8 : Int) := by rw [hq8]; rfl
                              have x5b : (k : Int) / 8 = (q8 : Int) := by omega
                              have x6 : (k : Int).tmod 8 = (r8 : Int) := by rw [hr8]; rfl
                              have x6b : (k : Int) % 8 = (r8 : Int) := by omega
                              have hql : (q8 : Int) < 256 := by omega
                              have hrl : r8 < 8 := by omega
                              have hxq := Dat.cell (w := wr) ⟨hl, 76, (0, 0), by rw [← HCE.out]; exact hrxi⟩ q8 (by omega)
                              obtain ⟨x, hx⟩ : ∃ x, x = (bs.getD q8 0).toNat := ⟨_, rfl⟩
                              have hx8 : x < 256 := by rw [hx]; exact (bs.getD q8 0).toNat_lt
                              rw [← hx] at hxq
                              clear hik hp1 hki0
                              subst hqs
                              have hy : bits .xor .u8 (x : Int) ((2 : Int) ^ r8 % 256) = ((x ^^^ 2 ^ r8 : Nat) : Int) := u8_flip x r8 hx8 hrl
                              have hyl : x ^^^ 2 ^ r8 < 256 := Nat.xor_lt_two_pow (n := 8) hx8 (by have := Nat.pow_lt_pow_right (a := 2) (by decide) hrl; simpa using this)
                              obtain ⟨C2, hC2⟩ : ∃ C2, C2 = ((flipD bs k).map encB).toArray := ⟨_, rfl⟩
                              have hC2e : C.setIfInBounds q8 (.int .u8 ((x ^^^ 2 ^ r8 : Nat) : Int)) = C2 := by
                                rw [hC2, HCE.out]
                                unfold flipD
                                rw [← hq8, ← hr8, ← hx, List.map_set, List.setIfInBounds_toArray]
                                congr 2
                                show _ = Value.int .u8 _
                                rw [UInt8.toNat_ofNat_of_lt' hyl]
                              have hrx4 : (wr.setCell ⟨xb, q8, none⟩ (.int .u8 (bits .xor .u8 (x : Int) ((2 : Int) ^ r8 % 256)))).heap[xb]? = some (.cells C2 76 (0, 0)) := by
                                rw [Go.Joins.block_setCell hrxi, hy, hC2e]
                              have hrr4 : (wr.setCell ⟨xb, q8, none⟩ (.int .u8 (bits .xor .u8 (x : Int) ((2 : Int) ^ r8 % 256)))).heap[rb]? = some (.cells Z 76 (0, 0)) := by
                                rw [Below.heap_setCell _ _ _ _ HNE.out.symm]; exact hrri
                              have hq4 : Below w.heap.size w (wr.setCell ⟨xb, q8, none⟩ (.int .u8 (bits .xor .u8 (x : Int) ((2 : Int) ^ r8 % 256)))) := hqi.setCell (p := ⟨xb, q8, none⟩) HGX.out _
                              have hC2s : C2.size = 256 := by rw [hC2]; simp [flipD, hl]
                              have HI2 := Lib.hid (show (Try.prog.info? 76).map (·.size) = some C2.size by rw [hC2s]; kernel_rfl)
                              have H1C2 : Hid (C2.all (·.oneCell') = true) := Lib.hid (by rw [hC2]; exact all_oneCell_toArray (encB_all _))
                              have HSZ2 : Hid (Z.size = C2.size) := Lib.hid (by rw [hC2s]; exact HZS.out)
                              have HC2 := Lib.hid hC2
                              have HX4 := Lib.hid hrx4
                              have HR4 := Lib.hid hrr4
                              have hfq : wr.frozen? ⟨xb, q8, none⟩ = false := by simp [World.frozen?, hrxi]
                              clear hC2e hy hyl hC2s hC2 hrx4 hrr4 hq8 hr8 hx hrxi hrri hqi
                              go_wp2_with (first
                                | (go_at_call 59; refine (HPq.out _).mono ?_; rintro e9 w8 ⟨rfl, hw8⟩; subst hw8)
                                | (refine wpList_load_row rfl 76 _ rfl xb rfl 76 C2 (0, 0) _ HX4.out Try.underlying76 rfl HI2.out ?_)
                                | (refine wpList_store_mid rfl 76 _ _ rfl rb 0 C2 rfl rfl (by have h := row_there HR4.out; exact (HSZ2.out ▸ h)) HI2.out H1C2.out ?_))
                              have hth : (wr.setCell ⟨xb, q8, none⟩ (.int .u8 (bits .xor .u8 (x : Int) ((2 : Int) ^ r8 % 256)))).there rb 0 C2.toList.length := by have h := row_there HR4.out; rw [Array.length_toList]; exact (HSZ2.out ▸ h)
                              have HLD := Lib.hid (run_loadVar_mid (P := Try.prog) ((wr.setCell ⟨xb, q8, none⟩ (.int .u8 (bits .xor .u8 (x : Int) ((2 : Int) ^ r8 % 256)))).setCells rb 0 C2.toList) rb 0 76 C2.toList _ (World.rangeAt_setCells_same _ _ _ _ hth) Try.underlying76 rfl (by rw [Array.length_toList]; exact HI2.out))
                              rw [Array.toArray_toList] at HLD
                              have hqf := below_setC HGR.out C2.toList 0 hq4
                              refine bodyPost_ret (v := .tuple #[.agg C2, .int .i64 1, .int .i64 0]) ?_ rfl ⟨by rw [HR0.out, HC2.out]; rfl, hqf⟩
                              rw [results_cell_tmp2 rfl]
                              simp [asAddr, Result.andThen, HLD.out]
                            · have hqsi : ((q : Int) == (s : Int)) = false := by rw [beq_eq_false_iff_ne]; omega
                              have hne : k ≠ i0 := by
                                intro h
                                rcases HFD.out with h1 | h1
                                · omega
                                · rw [← h, ← HP.out] at h1; exact hqs h1
                              have hlt2 : k + 1 ≤ i0 := by omega
                              go_wp2_with (go_at_call 59; refine (HPq.out _).mono ?_; rintro e9 w8 ⟨rfl, hw8⟩; subst hw8)
                              go_roundw
                              case rel => exact ⟨k + 1, q, by omega, by go_num, HPV.out, rfl, hlt2, HWY.out⟩
                              case measure => simp [intOf]; omega
                          · obtain ⟨h1, h2, h3⟩ : q = a + 1 ∧ isP q = true ∧ p = q + 1 := by
                              rcases hq with h | h
                              · exact absurd h hqp
                              · exact h
                            have HPq := Lib.hid (fun W => HPow.out q (by omega) (by omega) W)
                            rw [h2] at HPq
                            have H3 := Lib.hid h3
                            have hqb : q < 4100 := by omega
                            clear hq h1 h2 h3
                            go_wp2_with (go_at_call 59; refine (HPq.out _).mono ?_; rintro e9 w8 ⟨rfl, hw8⟩; subst hw8)
                            go_roundw
                            case rel => exact ⟨q + 1, by go_num, .inl H3.out.symm, trivial⟩
                            case measure =>
                              have h5 := H3.out
                              simp [intOf]
                              omega
                      · obtain rfl : k = 2048 := by omega
                        have HR0 : Hid (fixR bs c = (zeroD, 0, 21)) := Lib.hid (by rw [HFX2.out, if_pos hki0])
                        go_wp2_with (first
                          | (refine wpList_store_mid rfl 76 _ _ rfl rb 0 Z rfl rfl (by have h := row_there hrri; exact h) HIZ.out H1Z.out ?_))
                        have hth : wr.there rb 0 Z.toList.length := by have h := row_there hrri; rw [Array.length_toList]; exact h
                        have HLD := Lib.hid (run_loadVar_mid (P := Try.prog) (wr.setCells rb 0 Z.toList) rb 0 76 Z.toList _ (World.rangeAt_setCells_same _ _ _ _ hth) Try.underlying76 rfl (by rw [Array.length_toList]; exact HIZ.out))
                        rw [Array.toArray_toList] at HLD
                        have hqf := below_setC HGR.out Z.toList 0 hqi
                        refine bodyPost_ret (v := .tuple #[.agg Z, .int .i64 0, .int .i64 21]) ?_ rfl ⟨by rw [HR0.out, ← HZE.out]; rfl, hqf⟩
                        rw [results_cell_tmp2 rfl]
                        simp [asAddr, Result.andThen, HLD.out]
end Go.Proofs.YtljdfhckllncoaaK

import Derived.Test.YtofjabejkcicjaaKLvN
import Derived.Deep.RegionHeld3
namespace Go.Proofs.YtofjabejkcicjaaK
open Go.RowKit
set_option linter.unusedSimpArgs false
set_option linter.unusedVariables false
/-! NandLive. -/
def Bl (w : World) (v : Value) (xs : List Bool) : Prop := ∃ A c, v = .slice A xs.length c ∧ xs.length ≤ c ∧ xs.length ≤ 9223372036854775807 ∧ At w A (xs.map Value.bool)
theorem Bl.below {w w1 : World} {v : Value} {xs : List Bool} (h : Bl w v xs) (hb : Below w.heap.size w w1) : Bl w1 v xs := by
  obtain ⟨A, c, h1, h2, h3, h4⟩ := h
  exact ⟨A, c, h1, h2, h3, h4.below hb⟩
theorem Bl.len {w : World} {A : Option Addr} {n c : Nat} {xs : List Bool} (h : Bl w (.slice A n c) xs) : n = xs.length := by
  obtain ⟨A', c', h1, _⟩ := h
  injection h1
theorem Bl.max {w : World} {A : Option Addr} {n c : Nat} {xs : List Bool} (h : Bl w (.slice A n c) xs) : n ≤ 9223372036854775807 := by
  obtain ⟨A', c', h1, h2, h3, _⟩ := h
  injection h1 with e1 e2
  omega
theorem Bl.at {w : World} {A : Option Addr} {n c : Nat} {xs : List Bool} (h : Bl w (.slice A n c) xs) : At w A (xs.map Value.bool) := by
  obtain ⟨A', c', h1, h2, h3, h4⟩ := h
  injection h1 with e1
  rw [e1]; exact h4
set_option maxRecDepth 100000 in
set_option maxHeartbeats 20000000 in
theorem nandLive_walk (b : UInt8) (A : Option Addr) (n c0 : Nat) (xs : List Bool) (die : Int) (w : World) (hX : Bl w (.slice A n c0) xs) :
    Calls Try.prog 7 #[encB b, .slice A n c0, .int .i64 die] w fun e w' => e = .returned (.bool true) ∧ Below w.heap.size w w' := by
  have hlen := hX.len
  have HNN := Lib.hid hlen
  have h63 := hX.max
  have HL := Lib.hid (fun (wr : World) (hb : Below w.heap.size w wr) (k : Nat) (hk : k < xs.length) => (hX.below hb).at.map k hk)
  clear hX hlen
  have hand := and_31 die
  obtain ⟨dn, hdn⟩ : ∃ N : Nat, (N : Int) = die % 32 := ⟨(die % 32).toNat, by omega⟩
  rw [← hdn] at hand
  have hd32 : dn < 32 := by omega
  clear hdn
  have HPG := Lib.hid (fun w => page_any b w)
  have hb0 : encB b = .int .u8 (b.toNat : Int) := rfl
  rw [hb0] at HPG ⊢
  clear hb0
  by_cases h100 : 100 < n
  · go_enter Try.func7, Try.ntmps7
    go_wp2_with (go_at_call 9; refine (nand_speaks _).mono ?_; rintro e w1 ⟨rfl, hb1⟩)
    go_ret
    exact ⟨rfl, hb1⟩
  have HN := Lib.hid (fun (w1 : World) (pb : Nat) => new_any pb 16 (.slice none 0 0) [] [] w1 (by omega) (by omega) (Ints.nil _ _ _ _) rfl)
  obtain ⟨F, hF⟩ : ∃ F, F = pgF b := ⟨_, rfl⟩
  rw [← hF] at HPG
  clear hF
  obtain ⟨L, hL⟩ : ∃ L, L = pgL F := ⟨_, rfl⟩
  go_enter Try.func7, Try.ntmps7
  go_upto_region 5 with (go_at_call 9; refine (nand_speaks _).mono ?_; rintro e w1 ⟨rfl, hb1⟩)
  obtain ⟨pb, hpb⟩ : ∃ pb, pb = w1.heap.size := ⟨_, rfl⟩
  have HNP := Lib.hid (newPower_any w1)
  rw [← hpb] at HNP
  have HPB := Lib.hid hpb
  clear hpb
  go_upto_region 6 with (first
    | (go_at_call 10; refine HNP.out.mono ?_; rintro e w2 ⟨rfl, hp2, hb2⟩)
    | (go_at_call 11; refine (HN.out w2 pb).mono ?_; rintro e w3 ⟨rfl, hb3, hc3⟩))
  have hl2 : pb < w2.heap.size := (Array.getElem?_eq_some_iff.1 hp2).1
  have hg2 : w.heap.size ≤ pb := by rw [HPB.out]; exact hb1.size
  have hb02 := hb1.trans (hb2.mono hg2)
  have ho := one_new hb02 pb pw0 (newC 16 []) hg2 hl2 (PwW.below (P := pw0) hp2 hb3) hc3 hb3
  obtain ⟨cb, hcb⟩ : ∃ cb, cb = w2.heap.size + 1 := ⟨_, rfl⟩
  obtain ⟨rb, hrb⟩ : ∃ rb, rb = w2.heap.size := ⟨_, rfl⟩
  rw [← hcb, ← hrb] at ho
  simp only [← hcb]
  have HO := Lib.hid ho
  have HPR := Lib.hid (fun w4 (h : One w w4 pb cb rb pw0 (newC 16 [])) => (by
    have h1 := one_prog 4 0 F h (ok_new 16 [])
    obtain ⟨e1, e2, c, e3, e4⟩ := live_new F
    rw [e1, e2, e3, ← hL] at h1
    exact h1.mono (fun e w' h3 => ⟨h3.1, c, h3.2, e4⟩) : Calls Try.prog 13 #[.pointer (some ⟨cb, 0, none⟩), .int .i64 4, .int .i64 0, .agg L.toArray] w4 fun e w' => e = .returned (.int .i64 0) ∧ ∃ c, One w w' pb cb rb pw0 (lvC c false false) ∧ LI F c))
  rw [← hL] at HPG
  have HLF := Lib.hid hL
  have hLl : L.length = 258 := by rw [hL]; exact pgL_len _
  obtain ⟨Z, hZ⟩ : ∃ Z : List Value, Z = pgL (fun _ => 0) := ⟨_, rfl⟩
  have hz := page_zero
  rw [← hZ] at hz
  have hZl : Z.length = 258 := by rw [hZ]; exact pgL_len _
  have HIL := Lib.hid (show (Try.prog.info? 34).map (·.size) = some L.length by rw [hLl]; exact page_info)
  have HIA := Lib.hid (show (Try.prog.info? 34).map (·.size) = some L.toArray.size by rw [List.size_toArray, hLl]; exact page_info)
  have HIZ := Lib.hid (show (Try.prog.info? 34).map (·.size) = some Z.toArray.size by rw [List.size_toArray, hZl]; exact page_info)
  have H1A := Lib.hid (show L.toArray.all (·.oneCell') = true by rw [hL]; exact pgL_one _)
  have H1Z := Lib.hid (show Z.toArray.all (·.oneCell') = true by rw [hZ]; exact pgL_one _)
  have HLZ := Lib.hid (show L.toArray.size = Z.length by simp [hLl, hZl])
  have HZZ := Lib.hid (show Z.toArray.size = Z.length by simp)
  have HZE := Lib.hid hZ
  have heq : ∀ w9, (Op.equalIn 10000 34 (.agg L.toArray) (.agg L.toArray)).run Try.prog w9 = .ok true w9 := fun w9 => by rw [hL]; exact pg_self F w9
  clear hcb hrb ho hb3 hc3 hb02 hp2 hl2 hg2 HN HNP hb1 hb2 hL hLl hZ hZl
  go_wp2_with (first
    | (go_at_call 14; refine (HPG.out _).mono ?_; rintro e w4 ⟨rfl, hb4⟩; have HO4 := Lib.hid (HO.out.below hb4); clear hb4 HO)
    | (go_at_call 13; refine (HPR.out _ HO4.out).mono ?_; rintro e w5 ⟨rfl, c, hO5, hI5⟩; clear HPR))
  have HI := Lib.hid hI5
  clear hI5 HO4
  go_loopw [9, 10, 11, 12, 13, 14, 36] (fun v9 v10 v11 v12 v13 v14 v36 wr => ∃ (k : Nat) (d o : Bool), k ≤ n ∧ v36 = .int .i64 k ∧ v9 = .bool d ∧ One w wr pb cb rb pw0 (lvC c d o)) (fun _ _ _ _ _ _ v36 _ => n - (intOf v36).toNat)
  case atStart => exact ⟨0, false, false, by omega, rfl, rfl, hO5⟩
  case round =>
    obtain ⟨k, d, o, hk, rfl, rfl, hO⟩ := hrel
    clear hO5
    by_cases hlt : k < n
    · have hk1 : (k : Int) < n := by omega
      have hk0 : (0 : Int) ≤ k := by omega
      have hkl : k < xs.length := by rw [← HNN.out]; exact hlt
      obtain ⟨a, rfl, hc⟩ := HL.out wr hO.b k hkl
      obtain ⟨x, hx⟩ : ∃ x, x = xs[k] := ⟨_, rfl⟩
      rw [← hx] at hc
      clear hx hkl
      have HO := Lib.hid hO
      clear hO
      by_cases hkd : (k : Int) = dn
      · have HDIE := Lib.hid (by have h1 := one_die HO.out; exact h1 : Calls Try.prog 22 #[.pointer (some ⟨cb, 0, none⟩)] wr fun e w' => (∃ u, e = .returned u) ∧ One w w' pb cb rb pw0 (lvC c true o))
        obtain rfl : dn = k := by omega
        clear hkd
        rcases x with _ | _
        · have HPUT := Lib.hid (fun w7 (h : One w w7 pb cb rb pw0 (lvC c true o)) => (by have h1 := one_put false h; exact h1 : Calls Try.prog 23 #[.pointer (some ⟨cb, 0, none⟩), .bool false] w7 fun e w' => (∃ u, e = .returned u) ∧ One w w' pb cb rb pw0 (lvC c true true)))
          have HCNT := Lib.hid (fun w7 (h : One w w7 pb cb rb pw0 (lvC c true true)) => (by have h1 := one_count h; exact h1 : Calls Try.prog 15 #[.pointer (some ⟨cb, 0, none⟩)] w7 fun e w' => e = .returned (.int .i64 c.cnt) ∧ w7 = w'))
          have HLV := Lib.hid (fun w7 (h : One w w7 pb cb rb pw0 (lvC c true true)) => (by have h1 := one_live h; exact h1 : Calls Try.prog 24 #[.pointer (some ⟨cb, 0, none⟩)] w7 fun e w' => e = .returned (.bool (!true && !true)) ∧ w7 = w'))
          have hsh := HI.out.shut true true rfl F
          have hm := HI.out.may true true 4 0 rfl (.inl rfl)
          have hm2 : mayC pw0 (lvC c true true) 4 0 = 31 := hm
          have HRD := Lib.hid (fun w7 (h : One w w7 pb cb rb pw0 (lvC c true true)) => (by
            have h1 := one_read 4 0 h
            have hd : pgL (readD pw0 (lvC c true true) 4 0) = Z := by
              unfold readD
              rw [hm2, if_neg (by decide), HZE.out]
            rw [hd, hm2] at h1
            exact h1.mono (fun e w' h3 => ⟨h3.1, h.below h3.2⟩) : Calls Try.prog 21 #[.pointer (some ⟨cb, 0, none⟩), .int .i64 4, .int .i64 0] w7 fun e w' => e = .returned (.tuple #[.agg Z.toArray, .int .i64 31]) ∧ One w w' pb cb rb pw0 (lvC c true true)))
          have HER := Lib.hid (fun w7 (h : One w w7 pb cb rb pw0 (lvC c true true)) => (by
            have h1 := one_era 4 h (HI.out.lv true true).k
            rw [hsh.1, hsh.2.1, hsh.2.2.1] at h1
            exact h1 : Calls Try.prog 19 #[.pointer (some ⟨cb, 0, none⟩), .int .i64 4] w7 fun e w' => e = .returned (.int .i64 31) ∧ One w w' pb cb rb pw0 (lvC c true true)))
          have HPR := Lib.hid (fun w7 (h : One w w7 pb cb rb pw0 (lvC c true true)) => (by
            have h1 := one_prog 4 1 F h (HI.out.lv true true).k
            rw [hsh.2.2.2.1, hsh.2.2.2.2.1, hsh.2.2.2.2.2, ← HLF.out] at h1
            exact h1 : Calls Try.prog 13 #[.pointer (some ⟨cb, 0, none⟩), .int .i64 4, .int .i64 1, .agg L.toArray] w7 fun e w' => e = .returned (.int .i64 31) ∧ One w w' pb cb rb pw0 (lvC c true true)))
          clear hsh hm hm2
          go_upto_region 18 with (first
            | (go_at_call 22; refine HDIE.out.mono ?_; rintro e w6 ⟨⟨u, rfl⟩, hO6⟩; have HO6 := Lib.hid hO6; clear hO6 HDIE)
            | (go_at_call 23; refine (HPUT.out _ HO6.out).mono ?_; rintro e w7 ⟨⟨u2, rfl⟩, hO7⟩; have HO7 := Lib.hid hO7; clear hO7 HPUT)
            | (go_at_call 15; refine (HCNT.out _ HO7.out).mono ?_; rintro e w8 ⟨rfl, rfl⟩)
            | (go_at_call 21; refine (HRD.out _ HO7.out).mono ?_; rintro e w9 ⟨rfl, hO9⟩; have HO9 := Lib.hid hO9; clear hO9 HRD; have hA9 := arr_newL w9 Z 34)
            | (refine wpList_store_mid rfl 34 _ _ rfl w9.heap.size 0 Z.toArray rfl rfl (hA9.thereA HZZ.out) HIZ.out H1Z.out ?_))
          obtain ⟨W9, hW9⟩ : ∃ W9, W9 = (w9.alloc (.cells Z.toArray 34)).setCells w9.heap.size 0 Z.toArray.toList := ⟨_, rfl⟩
          have HO10 := Lib.hid (show One w W9 pb cb rb pw0 (lvC c true true) from HO9.out.below (by rw [hW9]; exact below_setCells (Nat.le_refl _) _ 0 ((Below.refl _ _).alloc (Nat.le_refl _) _)))
          rw [← hW9]
          clear hW9 hA9 HO9 HO7
          go_wp2_with (first
            | (go_at_call 24; refine (HLV.out _ HO10.out).mono ?_; rintro e w8 ⟨rfl, rfl⟩)
            | (go_at_call 19; refine (HER.out _ HO10.out).mono ?_; rintro e w11 ⟨rfl, hO11⟩; have HO11 := Lib.hid hO11; clear hO11 HER HO10)
            | (go_at_call 14; refine (HPG.out _).mono ?_; rintro e w12 ⟨rfl, hb12⟩; have HO12 := Lib.hid (HO11.out.below hb12); clear hb12 HO11)
            | (go_at_call 13; refine (HPR.out _ HO12.out).mono ?_; rintro e w13 ⟨rfl, hO13⟩; have HO13 := Lib.hid hO13; clear hO13 HPR HO12)
            | (go_at_call 15; refine (HCNT.out _ HO13.out).mono ?_; rintro e w8 ⟨rfl, rfl⟩))
          go_roundw
          case rel => exact ⟨dn + 1, true, true, by omega, by go_num, rfl, HO13.out⟩
          case measure => simp [intOf]; omega
        · have HPUT := Lib.hid (fun w7 (h : One w w7 pb cb rb pw0 (lvC c true o)) => (by have h1 := one_put true h; exact h1 : Calls Try.prog 23 #[.pointer (some ⟨cb, 0, none⟩), .bool true] w7 fun e w' => (∃ u, e = .returned u) ∧ One w w' pb cb rb pw0 (lvC c true false)))
          have HCNT := Lib.hid (fun w7 (h : One w w7 pb cb rb pw0 (lvC c true false)) => (by have h1 := one_count h; exact h1 : Calls Try.prog 15 #[.pointer (some ⟨cb, 0, none⟩)] w7 fun e w' => e = .returned (.int .i64 c.cnt) ∧ w7 = w'))
          have HLV := Lib.hid (fun w7 (h : One w w7 pb cb rb pw0 (lvC c true false)) => (by have h1 := one_live h; exact h1 : Calls Try.prog 24 #[.pointer (some ⟨cb, 0, none⟩)] w7 fun e w' => e = .returned (.bool (!true && !false)) ∧ w7 = w'))
          have hsh := HI.out.shut true false rfl F
          have hm := HI.out.may true false 4 0 rfl (.inl rfl)
          have hm2 : mayC pw0 (lvC c true false) 4 0 = 31 := hm
          have HRD := Lib.hid (fun w7 (h : One w w7 pb cb rb pw0 (lvC c true false)) => (by
            have h1 := one_read 4 0 h
            have hd : pgL (readD pw0 (lvC c true false) 4 0) = Z := by
              unfold readD
              rw [hm2, if_neg (by decide), HZE.out]
            rw [hd, hm2] at h1
            exact h1.mono (fun e w' h3 => ⟨h3.1, h.below h3.2⟩) : Calls Try.prog 21 #[.pointer (some ⟨cb, 0, none⟩), .int .i64 4, .int .i64 0] w7 fun e w' => e = .returned (.tuple #[.agg Z.toArray, .int .i64 31]) ∧ One w w' pb cb rb pw0 (lvC c true false)))
          have HER := Lib.hid (fun w7 (h : One w w7 pb cb rb pw0 (lvC c true false)) => (by
            have h1 := one_era 4 h (HI.out.lv true false).k
            rw [hsh.1, hsh.2.1, hsh.2.2.1] at h1
            exact h1 : Calls Try.prog 19 #[.pointer (some ⟨cb, 0, none⟩), .int .i64 4] w7 fun e w' => e = .returned (.int .i64 31) ∧ One w w' pb cb rb pw0 (lvC c true false)))
          have HPR := Lib.hid (fun w7 (h : One w w7 pb cb rb pw0 (lvC c true false)) => (by
            have h1 := one_prog 4 1 F h (HI.out.lv true false).k
            rw [hsh.2.2.2.1, hsh.2.2.2.2.1, hsh.2.2.2.2.2, ← HLF.out] at h1
            exact h1 : Calls Try.prog 13 #[.pointer (some ⟨cb, 0, none⟩), .int .i64 4, .int .i64 1, .agg L.toArray] w7 fun e w' => e = .returned (.int .i64 31) ∧ One w w' pb cb rb pw0 (lvC c true false)))
          clear hsh hm hm2
          go_upto_region 18 with (first
            | (go_at_call 22; refine HDIE.out.mono ?_; rintro e w6 ⟨⟨u, rfl⟩, hO6⟩; have HO6 := Lib.hid hO6; clear hO6 HDIE)
            | (go_at_call 23; refine (HPUT.out _ HO6.out).mono ?_; rintro e w7 ⟨⟨u2, rfl⟩, hO7⟩; have HO7 := Lib.hid hO7; clear hO7 HPUT)
            | (go_at_call 15; refine (HCNT.out _ HO7.out).mono ?_; rintro e w8 ⟨rfl, rfl⟩)
            | (go_at_call 21; refine (HRD.out _ HO7.out).mono ?_; rintro e w9 ⟨rfl, hO9⟩; have HO9 := Lib.hid hO9; clear hO9 HRD; have hA9 := arr_newL w9 Z 34)
            | (refine wpList_store_mid rfl 34 _ _ rfl w9.heap.size 0 Z.toArray rfl rfl (hA9.thereA HZZ.out) HIZ.out H1Z.out ?_))
          obtain ⟨W9, hW9⟩ : ∃ W9, W9 = (w9.alloc (.cells Z.toArray 34)).setCells w9.heap.size 0 Z.toArray.toList := ⟨_, rfl⟩
          have HO10 := Lib.hid (show One w W9 pb cb rb pw0 (lvC c true false) from HO9.out.below (by rw [hW9]; exact below_setCells (Nat.le_refl _) _ 0 ((Below.refl _ _).alloc (Nat.le_refl _) _)))
          rw [← hW9]
          clear hW9 hA9 HO9 HO7
          go_wp2_with (first
            | (go_at_call 24; refine (HLV.out _ HO10.out).mono ?_; rintro e w8 ⟨rfl, rfl⟩)
            | (go_at_call 19; refine (HER.out _ HO10.out).mono ?_; rintro e w11 ⟨rfl, hO11⟩; have HO11 := Lib.hid hO11; clear hO11 HER HO10)
            | (go_at_call 14; refine (HPG.out _).mono ?_; rintro e w12 ⟨rfl, hb12⟩; have HO12 := Lib.hid (HO11.out.below hb12); clear hb12 HO11)
            | (go_at_call 13; refine (HPR.out _ HO12.out).mono ?_; rintro e w13 ⟨rfl, hO13⟩; have HO13 := Lib.hid hO13; clear hO13 HPR HO12)
            | (go_at_call 15; refine (HCNT.out _ HO13.out).mono ?_; rintro e w8 ⟨rfl, rfl⟩))
          go_roundw
          case rel => exact ⟨dn + 1, true, false, by omega, by go_num, rfl, HO13.out⟩
          case measure => simp [intOf]; omega
      · have hkd2 : ((k : Int) == (dn : Int)) = false := beq_eq_false_iff_ne.2 hkd
        rcases d with _ | _
        · rcases x with _ | _
          · have HPUT := Lib.hid (fun w7 (h : One w w7 pb cb rb pw0 (lvC c false o)) => (by have h1 := one_put false h; exact h1 : Calls Try.prog 23 #[.pointer (some ⟨cb, 0, none⟩), .bool false] w7 fun e w' => (∃ u, e = .returned u) ∧ One w w' pb cb rb pw0 (lvC c false true)))
            have HCNT := Lib.hid (fun w7 (h : One w w7 pb cb rb pw0 (lvC c false true)) => (by have h1 := one_count h; exact h1 : Calls Try.prog 15 #[.pointer (some ⟨cb, 0, none⟩)] w7 fun e w' => e = .returned (.int .i64 c.cnt) ∧ w7 = w'))
            have HLV := Lib.hid (fun w7 (h : One w w7 pb cb rb pw0 (lvC c false true)) => (by have h1 := one_live h; exact h1 : Calls Try.prog 24 #[.pointer (some ⟨cb, 0, none⟩)] w7 fun e w' => e = .returned (.bool (!false && !true)) ∧ w7 = w'))
            have hsh := HI.out.shut false true rfl F
            have hm := HI.out.may false true 4 0 rfl (.inl rfl)
            have hm2 : mayC pw0 (lvC c false true) 4 0 = 31 := hm
            have HRD := Lib.hid (fun w7 (h : One w w7 pb cb rb pw0 (lvC c false true)) => (by
              have h1 := one_read 4 0 h
              have hd : pgL (readD pw0 (lvC c false true) 4 0) = Z := by
                unfold readD
                rw [hm2, if_neg (by decide), HZE.out]
              rw [hd, hm2] at h1
              exact h1.mono (fun e w' h3 => ⟨h3.1, h.below h3.2⟩) : Calls Try.prog 21 #[.pointer (some ⟨cb, 0, none⟩), .int .i64 4, .int .i64 0] w7 fun e w' => e = .returned (.tuple #[.agg Z.toArray, .int .i64 31]) ∧ One w w' pb cb rb pw0 (lvC c false true)))
            have HER := Lib.hid (fun w7 (h : One w w7 pb cb rb pw0 (lvC c false true)) => (by
              have h1 := one_era 4 h (HI.out.lv false true).k
              rw [hsh.1, hsh.2.1, hsh.2.2.1] at h1
              exact h1 : Calls Try.prog 19 #[.pointer (some ⟨cb, 0, none⟩), .int .i64 4] w7 fun e w' => e = .returned (.int .i64 31) ∧ One w w' pb cb rb pw0 (lvC c false true)))
            have HPR := Lib.hid (fun w7 (h : One w w7 pb cb rb pw0 (lvC c false true)) => (by
              have h1 := one_prog 4 1 F h (HI.out.lv false true).k
              rw [hsh.2.2.2.1, hsh.2.2.2.2.1, hsh.2.2.2.2.2, ← HLF.out] at h1
              exact h1 : Calls Try.prog 13 #[.pointer (some ⟨cb, 0, none⟩), .int .i64 4, .int .i64 1, .agg L.toArray] w7 fun e w' => e = .returned (.int .i64 31) ∧ One w w' pb cb rb pw0 (lvC c false true)))
            clear hsh hm hm2
            go_upto_region 18 with (first
              | (go_at_call 23; refine (HPUT.out _ HO.out).mono ?_; rintro e w7 ⟨⟨u2, rfl⟩, hO7⟩; have HO7 := Lib.hid hO7; clear hO7 HPUT)
              | (go_at_call 15; refine (HCNT.out _ HO7.out).mono ?_; rintro e w8 ⟨rfl, rfl⟩)
              | (go_at_call 21; refine (HRD.out _ HO7.out).mono ?_; rintro e w9 ⟨rfl, hO9⟩; have HO9 := Lib.hid hO9; clear hO9 HRD; have hA9 := arr_newL w9 Z 34)
              | (refine wpList_store_mid rfl 34 _ _ rfl w9.heap.size 0 Z.toArray rfl rfl (hA9.thereA HZZ.out) HIZ.out H1Z.out ?_))
            obtain ⟨W9, hW9⟩ : ∃ W9, W9 = (w9.alloc (.cells Z.toArray 34)).setCells w9.heap.size 0 Z.toArray.toList := ⟨_, rfl⟩
            have HO10 := Lib.hid (show One w W9 pb cb rb pw0 (lvC c false true) from HO9.out.below (by rw [hW9]; exact below_setCells (Nat.le_refl _) _ 0 ((Below.refl _ _).alloc (Nat.le_refl _) _)))
            rw [← hW9]
            clear hW9 hA9 HO9 HO7
            go_wp2_with (first
              | (go_at_call 24; refine (HLV.out _ HO10.out).mono ?_; rintro e w8 ⟨rfl, rfl⟩)
              | (go_at_call 19; refine (HER.out _ HO10.out).mono ?_; rintro e w11 ⟨rfl, hO11⟩; have HO11 := Lib.hid hO11; clear hO11 HER HO10)
              | (go_at_call 14; refine (HPG.out _).mono ?_; rintro e w12 ⟨rfl, hb12⟩; have HO12 := Lib.hid (HO11.out.below hb12); clear hb12 HO11)
              | (go_at_call 13; refine (HPR.out _ HO12.out).mono ?_; rintro e w13 ⟨rfl, hO13⟩; have HO13 := Lib.hid hO13; clear hO13 HPR HO12)
              | (go_at_call 15; refine (HCNT.out _ HO13.out).mono ?_; rintro e w8 ⟨rfl, rfl⟩))
            go_roundw
            case rel => exact ⟨k + 1, false, true, by omega, by go_num, rfl, HO13.out⟩
            case measure => simp [intOf]; omega
          · have HPUT := Lib.hid (fun w7 (h : One w w7 pb cb rb pw0 (lvC c false o)) => (by have h1 := one_put true h; exact h1 : Calls Try.prog 23 #[.pointer (some ⟨cb, 0, none⟩), .bool true] w7 fun e w' => (∃ u, e = .returned u) ∧ One w w' pb cb rb pw0 (lvC c false false)))
            have HCNT := Lib.hid (fun w7 (h : One w w7 pb cb rb pw0 (lvC c false false)) => (by have h1 := one_count h; exact h1 : Calls Try.prog 15 #[.pointer (some ⟨cb, 0, none⟩)] w7 fun e w' => e = .returned (.int .i64 c.cnt) ∧ w7 = w'))
            have HLV := Lib.hid (fun w7 (h : One w w7 pb cb rb pw0 (lvC c false false)) => (by have h1 := one_live h; exact h1 : Calls Try.prog 24 #[.pointer (some ⟨cb, 0, none⟩)] w7 fun e w' => e = .returned (.bool (!false && !false)) ∧ w7 = w'))
            have hm2 : mayC pw0 (lvC c false false) 4 0 = 0 := HI.out.may false false 4 0 rfl (.inl rfl)
            have HRD := Lib.hid (fun w7 (h : One w w7 pb cb rb pw0 (lvC c false false)) => (by
              have h1 := one_read 4 0 h
              rw [HI.out.read, hm2, ← HLF.out] at h1
              exact h1.mono (fun e w' h3 => ⟨h3.1, h.below h3.2⟩) : Calls Try.prog 21 #[.pointer (some ⟨cb, 0, none⟩), .int .i64 4, .int .i64 0] w7 fun e w' => e = .returned (.tuple #[.agg L.toArray, .int .i64 0]) ∧ One w w' pb cb rb pw0 (lvC c false false)))
            clear hm2
            go_upto_region 18 with (first
              | (go_at_call 23; refine (HPUT.out _ HO.out).mono ?_; rintro e w7 ⟨⟨u2, rfl⟩, hO7⟩; have HO7 := Lib.hid hO7; clear hO7 HPUT)
              | (go_at_call 15; refine (HCNT.out _ HO7.out).mono ?_; rintro e w8 ⟨rfl, rfl⟩)
              | (go_at_call 21; refine (HRD.out _ HO7.out).mono ?_; rintro e w9 ⟨rfl, hO9⟩; have HO9 := Lib.hid hO9; clear hO9 HRD; have hA9 := arr_newL w9 Z 34)
              | (refine wpList_store_mid rfl 34 _ _ rfl w9.heap.size 0 L.toArray rfl rfl (hA9.thereA HLZ.out) HIA.out H1A.out ?_))
            obtain ⟨x1, hx1⟩ : ∃ x1, x1 = w9.heap.size := ⟨_, rfl⟩
            obtain ⟨W9, hW9⟩ : ∃ W9, W9 = (w9.alloc (.cells Z.toArray 34)).setCells w9.heap.size 0 L.toArray.toList := ⟨_, rfl⟩
            have HA10 := Lib.hid (show Arr W9 x1 L by rw [hW9, hx1]; have := hA9.setA_same HLZ.out; simpa using this)
            have HO10 := Lib.hid (show One w W9 pb cb rb pw0 (lvC c false false) from HO9.out.below (by rw [hW9]; exact below_setCells (Nat.le_refl _) _ 0 ((Below.refl _ _).alloc (Nat.le_refl _) _)))
            rw [← hW9]
            simp only [← hx1]
            clear hW9 hx1 hA9 HO9 HO7 hz
            go_wp2_with fail
            have hb0 : Below W9.heap.size W9 W9.drew := (Below.refl _ _).drew
            have hiL := HIL.out
            have hu := Try.underlying34
            go_region_held3 (fun w' => w'.rangeAt x1 0 L) (first | exact (HA10.out.below hb0).1 | exact (HA10.out.below hbA).1)
              (first
                | (go_at_call 14; refine (HPG.out _).mono ?_; rintro e wA ⟨rfl, hbx⟩; have hbA := hb0.trans (hbx.mono hb0.size); clear hbx hb0)
                | (go_at_call 24; refine (HLV.out _ (HO10.out.below hbA)).mono ?_; rintro e w8 ⟨rfl, rfl⟩))
            go_wp2_with fail
            go_roundw
            case rel => exact ⟨k + 1, false, false, by omega, by go_num, rfl, HO10.out.below hbA⟩
            case measure => simp [intOf]; omega
        · rcases x with _ | _
          · have HPUT := Lib.hid (fun w7 (h : One w w7 pb cb rb pw0 (lvC c true o)) => (by have h1 := one_put false h; exact h1 : Calls Try.prog 23 #[.pointer (some ⟨cb, 0, none⟩), .bool false] w7 fun e w' => (∃ u, e = .returned u) ∧ One w w' pb cb rb pw0 (lvC c true true)))
            have HCNT := Lib.hid (fun w7 (h : One w w7 pb cb rb pw0 (lvC c true true)) => (by have h1 := one_count h; exact h1 : Calls Try.prog 15 #[.pointer (some ⟨cb, 0, none⟩)] w7 fun e w' => e = .returned (.int .i64 c.cnt) ∧ w7 = w'))
            have HLV := Lib.hid (fun w7 (h : One w w7 pb cb rb pw0 (lvC c true true)) => (by have h1 := one_live h; exact h1 : Calls Try.prog 24 #[.pointer (some ⟨cb, 0, none⟩)] w7 fun e w' => e = .returned (.bool (!true && !true)) ∧ w7 = w'))
            have hsh := HI.out.shut true true rfl F
            have hm := HI.out.may true true 4 0 rfl (.inl rfl)
            have hm2 : mayC pw0 (lvC c true true) 4 0 = 31 := hm
            have HRD := Lib.hid (fun w7 (h : One w w7 pb cb rb pw0 (lvC c true true)) => (by
              have h1 := one_read 4 0 h
              have hd : pgL (readD pw0 (lvC c true true) 4 0) = Z := by
                unfold readD
                rw [hm2, if_neg (by decide), HZE.out]
              rw [hd, hm2] at h1
              exact h1.mono (fun e w' h3 => ⟨h3.1, h.below h3.2⟩) : Calls Try.prog 21 #[.pointer (some ⟨cb, 0, none⟩), .int .i64 4, .int .i64 0] w7 fun e w' => e = .returned (.tuple #[.agg Z.toArray, .int .i64 31]) ∧ One w w' pb cb rb pw0 (lvC c true true)))
            have HER := Lib.hid (fun w7 (h : One w w7 pb cb rb pw0 (lvC c true true)) => (by
              have h1 := one_era 4 h (HI.out.lv true true).k
              rw [hsh.1, hsh.2.1, hsh.2.2.1] at h1
              exact h1 : Calls Try.prog 19 #[.pointer (some ⟨cb, 0, none⟩), .int .i64 4] w7 fun e w' => e = .returned (.int .i64 31) ∧ One w w' pb cb rb pw0 (lvC c true true)))
            have HPR := Lib.hid (fun w7 (h : One w w7 pb cb rb pw0 (lvC c true true)) => (by
              have h1 := one_prog 4 1 F h (HI.out.lv true true).k
              rw [hsh.2.2.2.1, hsh.2.2.2.2.1, hsh.2.2.2.2.2, ← HLF.out] at h1
              exact h1 : Calls Try.prog 13 #[.pointer (some ⟨cb, 0, none⟩), .int .i64 4, .int .i64 1, .agg L.toArray] w7 fun e w' => e = .returned (.int .i64 31) ∧ One w w' pb cb rb pw0 (lvC c true true)))
            clear hsh hm hm2
            go_upto_region 18 with (first
              | (go_at_call 23; refine (HPUT.out _ HO.out).mono ?_; rintro e w7 ⟨⟨u2, rfl⟩, hO7⟩; have HO7 := Lib.hid hO7; clear hO7 HPUT)
              | (go_at_call 15; refine (HCNT.out _ HO7.out).mono ?_; rintro e w8 ⟨rfl, rfl⟩)
              | (go_at_call 21; refine (HRD.out _ HO7.out).mono ?_; rintro e w9 ⟨rfl, hO9⟩; have HO9 := Lib.hid hO9; clear hO9 HRD; have hA9 := arr_newL w9 Z 34)
              | (refine wpList_store_mid rfl 34 _ _ rfl w9.heap.size 0 Z.toArray rfl rfl (hA9.thereA HZZ.out) HIZ.out H1Z.out ?_))
            obtain ⟨W9, hW9⟩ : ∃ W9, W9 = (w9.alloc (.cells Z.toArray 34)).setCells w9.heap.size 0 Z.toArray.toList := ⟨_, rfl⟩
            have HO10 := Lib.hid (show One w W9 pb cb rb pw0 (lvC c true true) from HO9.out.below (by rw [hW9]; exact below_setCells (Nat.le_refl _) _ 0 ((Below.refl _ _).alloc (Nat.le_refl _) _)))
            rw [← hW9]
            clear hW9 hA9 HO9 HO7
            go_wp2_with (first
              | (go_at_call 24; refine (HLV.out _ HO10.out).mono ?_; rintro e w8 ⟨rfl, rfl⟩)
              | (go_at_call 19; refine (HER.out _ HO10.out).mono ?_; rintro e w11 ⟨rfl, hO11⟩; have HO11 := Lib.hid hO11; clear hO11 HER HO10)
              | (go_at_call 14; refine (HPG.out _).mono ?_; rintro e w12 ⟨rfl, hb12⟩; have HO12 := Lib.hid (HO11.out.below hb12); clear hb12 HO11)
              | (go_at_call 13; refine (HPR.out _ HO12.out).mono ?_; rintro e w13 ⟨rfl, hO13⟩; have HO13 := Lib.hid hO13; clear hO13 HPR HO12)
              | (go_at_call 15; refine (HCNT.out _ HO13.out).mono ?_; rintro e w8 ⟨rfl, rfl⟩))
            go_roundw
            case rel => exact ⟨k + 1, true, true, by omega, by go_num, rfl, HO13.out⟩
            case measure => simp [intOf]; omega
          · have HPUT := Lib.hid (fun w7 (h : One w w7 pb cb rb pw0 (lvC c true o)) => (by have h1 := one_put true h; exact h1 : Calls Try.prog 23 #[.pointer (some ⟨cb, 0, none⟩), .bool true] w7 fun e w' => (∃ u, e = .returned u) ∧ One w w' pb cb rb pw0 (lvC c true false)))
            have HCNT := Lib.hid (fun w7 (h : One w w7 pb cb rb pw0 (lvC c true false)) => (by have h1 := one_count h; exact h1 : Calls Try.prog 15 #[.pointer (some ⟨cb, 0, none⟩)] w7 fun e w' => e = .returned (.int .i64 c.cnt) ∧ w7 = w'))
            have HLV := Lib.hid (fun w7 (h : One w w7 pb cb rb pw0 (lvC c true false)) => (by have h1 := one_live h; exact h1 : Calls Try.prog 24 #[.pointer (some ⟨cb, 0, none⟩)] w7 fun e w' => e = .returned (.bool (!true && !false)) ∧ w7 = w'))
            have hsh := HI.out.shut true false rfl F
            have hm := HI.out.may true false 4 0 rfl (.inl rfl)
            have hm2 : mayC pw0 (lvC c true false) 4 0 = 31 := hm
            have HRD := Lib.hid (fun w7 (h : One w w7 pb cb rb pw0 (lvC c true false)) => (by
              have h1 := one_read 4 0 h
              have hd : pgL (readD pw0 (lvC c true false) 4 0) = Z := by
                unfold readD
                rw [hm2, if_neg (by decide), HZE.out]
              rw [hd, hm2] at h1
              exact h1.mono (fun e w' h3 => ⟨h3.1, h.below h3.2⟩) : Calls Try.prog 21 #[.pointer (some ⟨cb, 0, none⟩), .int .i64 4, .int .i64 0] w7 fun e w' => e = .returned (.tuple #[.agg Z.toArray, .int .i64 31]) ∧ One w w' pb cb rb pw0 (lvC c true false)))
            have HER := Lib.hid (fun w7 (h : One w w7 pb cb rb pw0 (lvC c true false)) => (by
              have h1 := one_era 4 h (HI.out.lv true false).k
              rw [hsh.1, hsh.2.1, hsh.2.2.1] at h1
              exact h1 : Calls Try.prog 19 #[.pointer (some ⟨cb, 0, none⟩), .int .i64 4] w7 fun e w' => e = .returned (.int .i64 31) ∧ One w w' pb cb rb pw0 (lvC c true false)))
            have HPR := Lib.hid (fun w7 (h : One w w7 pb cb rb pw0 (lvC c true false)) => (by
              have h1 := one_prog 4 1 F h (HI.out.lv true false).k
              rw [hsh.2.2.2.1, hsh.2.2.2.2.1, hsh.2.2.2.2.2, ← HLF.out] at h1
              exact h1 : Calls Try.prog 13 #[.pointer (some ⟨cb, 0, none⟩), .int .i64 4, .int .i64 1, .agg L.toArray] w7 fun e w' => e = .returned (.int .i64 31) ∧ One w w' pb cb rb pw0 (lvC c true false)))
            clear hsh hm hm2
            go_upto_region 18 with (first
              | (go_at_call 23; refine (HPUT.out _ HO.out).mono ?_; rintro e w7 ⟨⟨u2, rfl⟩, hO7⟩; have HO7 := Lib.hid hO7; clear hO7 HPUT)
              | (go_at_call 15; refine (HCNT.out _ HO7.out).mono ?_; rintro e w8 ⟨rfl, rfl⟩)
              | (go_at_call 21; refine (HRD.out _ HO7.out).mono ?_; rintro e w9 ⟨rfl, hO9⟩; have HO9 := Lib.hid hO9; clear hO9 HRD; have hA9 := arr_newL w9 Z 34)
              | (refine wpList_store_mid rfl 34 _ _ rfl w9.heap.size 0 Z.toArray rfl rfl (hA9.thereA HZZ.out) HIZ.out H1Z.out ?_))
            obtain ⟨W9, hW9⟩ : ∃ W9, W9 = (w9.alloc (.cells Z.toArray 34)).setCells w9.heap.size 0 Z.toArray.toList := ⟨_, rfl⟩
            have HO10 := Lib.hid (show One w W9 pb cb rb pw0 (lvC c true false) from HO9.out.below (by rw [hW9]; exact below_setCells (Nat.le_refl _) _ 0 ((Below.refl _ _).alloc (Nat.le_refl _) _)))
            rw [← hW9]
            clear hW9 hA9 HO9 HO7
            go_wp2_with (first
              | (go_at_call 24; refine (HLV.out _ HO10.out).mono ?_; rintro e w8 ⟨rfl, rfl⟩)
              | (go_at_call 19; refine (HER.out _ HO10.out).mono ?_; rintro e w11 ⟨rfl, hO11⟩; have HO11 := Lib.hid hO11; clear hO11 HER HO10)
              | (go_at_call 14; refine (HPG.out _).mono ?_; rintro e w12 ⟨rfl, hb12⟩; have HO12 := Lib.hid (HO11.out.below hb12); clear hb12 HO11)
              | (go_at_call 13; refine (HPR.out _ HO12.out).mono ?_; rintro e w13 ⟨rfl, hO13⟩; have HO13 := Lib.hid hO13; clear hO13 HPR HO12)
              | (go_at_call 15; refine (HCNT.out _ HO13.out).mono ?_; rintro e w8 ⟨rfl, rfl⟩))
            go_roundw
            case rel => exact ⟨k + 1, true, false, by omega, by go_num, rfl, HO13.out⟩
            case measure => simp [intOf]; omega
    · obtain rfl : k = n := by omega
      have HB := Lib.hid hO.b
      clear hO
      go_wp2_with fail
      go_ret
      exact ⟨rfl, HB.out⟩
theorem nandLive_row (a0 : Int) (w0 : (Lit.int .u8 a0).wf = true) (A : Option Addr) (n c0 : Nat) (xs : List Bool) (die : Int) (w : World) (hX : Bl w (.slice A n c0) xs) :
    Calls Try.prog 7 #[.int .u8 a0, .slice A n c0, .int .i64 die] w fun e w' => e = .returned (.bool true) ∧ Below w.heap.size w w' := by
  have hb := bounds_u8 w0
  have he : encB (UInt8.ofNat a0.toNat) = .int .u8 a0 := by
    unfold encB
    rw [UInt8.toNat_ofNat']
    congr 1
    omega
  rw [← he]
  exact nandLive_walk _ A n c0 xs die w hX
end Go.Proofs.YtofjabejkcicjaaK

import Derived.Test.YtofjabejkcicjaaKTwo
import Derived.Test.YtofjabejkcicjaaKMapB
namespace Go.Proofs.YtofjabejkcicjaaK
open Go.RowKit Go.Maps
set_option linter.unusedSimpArgs false
set_option linter.unusedVariables false
/-! NandFails. -/
theorem ints_of_is {w : World} {v : Value} {xs : List Int} (h : Is .i64 w v xs) : Ints w v xs [] := by
  obtain ⟨A, c, rfl, h1, h2, h3⟩ := h
  refine ⟨A, c, rfl, h2, ?_⟩
  by_cases e : xs = []
  · exact .inl e
  · have hl : 0 < xs.length := List.length_pos_iff.2 e
    obtain ⟨a, rfl, hc⟩ := h3.map 0 hl
    have hsp : a.spot = none := by
      rcases hs : a.spot with _ | s
      · rfl
      · exfalso
        unfold Addr.add at hc
        unfold World.cell? at hc
        simp [hs] at hc
        split at hc <;> simp_all
    obtain ⟨b, off, sp⟩ := a
    dsimp only at hsp
    subst hsp
    refine .inr ⟨b, off, rfl, by simp, fun j x hx => ?_⟩
    obtain ⟨a2, e2, hc2⟩ := h3 j (.int .i64 x) (by rw [List.getElem?_map, hx]; rfl)
    injection e2 with e2
    subst e2
    rwa [show (⟨b, off, none⟩ : Addr).add j = ⟨b, off + j, none⟩ from by unfold Addr.add; split <;> simp_all] at hc2
theorem Ints.freshL {w : World} {v : Value} {L : List Int} {S : List Nat} (h : Ints w v L []) (hS : ∀ k ∈ S, w.heap.size ≤ k) : Ints w v L S := by
  obtain ⟨A, c, h1, h2, h3⟩ := h
  by_cases e : L = []
  · exact ⟨A, c, h1, h2, .inl e⟩
  · rcases h3 with h3 | ⟨b, off, h4, h5, h6⟩
    · exact absurd h3 e
    · refine ⟨A, c, h1, h2, .inr ⟨b, off, h4, ?_, h6⟩⟩
      have hl : 0 < L.length := List.length_pos_iff.2 e
      have hc := h6 0 _ (List.getElem?_eq_getElem hl)
      have hb : b < w.heap.size := World.block_lt_of_cell? w _ hc
      intro hm
      have := hS b hm
      omega
theorem law3b : Keyed Try.prog 3 := int_keyed Try.underlying3
theorem zeroBool (w : World) : (zeroValue 4).run Try.prog w = .ok (.bool false) w := by kernel_rfl
theorem and_127 (x : Int) : bits .and .i64 x 127 = x % 128 := by
  show IntKind.i64.wrap (((BitVec.ofInt 64 x) &&& (BitVec.ofInt 64 127)).toNat : Int) = _
  rw [BitVec.toNat_and, BitVec.toNat_ofInt, BitVec.toNat_ofInt]
  have h1 : ((127 : Int) % ((2 ^ 64 : Nat) : Int)).toNat = 2 ^ 7 - 1 := by decide
  rw [h1, Nat.and_two_pow_sub_one_eq_mod, IntKind.wrap_i64]
  omega
/-- A map reads as which numbers are in a row. -/
def IMap (D : DataW Unit) (L : List Int) : Prop := IsMap D ∧ ∀ x, D.atKey (.int .i64 x) (.lit (.bool false)) = .lit (.bool (L.contains x))
theorem imap_zero : IMap (.map []) [] := ⟨⟨[], rfl⟩, fun x => rfl⟩
theorem IMap.step {D : DataW Unit} {L : List Int} (h : IMap D L) (y : Int) : IMap (D.put (.int .i64 y) (.lit (.bool true))) (L ++ [y]) := by
  have hk : WideAt.IsKeyLit (.int .i64 y) := trivial
  refine ⟨h.1.put _ _, fun x => ?_⟩
  by_cases e : x = y
  · subst e
    rw [atKey_put_same h.1 hk]
    simp
  · rw [atKey_put_other (fun e2 => e (by injection e2)), h.2 x]
    simp [e]
theorem owns_chg {S : List Nat} {w w' : World} {b n : Nat} {D : DataW Unit} (h : w.ownsMap Try.prog 3 (plainElem Try.prog 4) b n D) (g : Chg S w w') (hn : b ∉ S) : w'.ownsMap Try.prog 3 (plainElem Try.prog 4) b n D := by
  obtain ⟨es, cl, h1, h2⟩ := h
  exact ⟨es, cl, g.at h1 hn, h2⟩
theorem count_two {w0 w : World} {S : List Nat} {pb ca ra cb rb : Nat} {P : Pw} {c d : Ch} (h : Two w0 w S pb ca ra cb rb P c d) : Calls Try.prog 15 #[.pointer (some ⟨ca, 0, none⟩)] w fun e w' => e = .returned (.int .i64 c.cnt) ∧ w = w' := by
  obtain ⟨v1, v2, hC, _⟩ := h.c
  exact count_any ca pb _ _ _ _ _ _ _ _ w hC
set_option maxRecDepth 100000 in
set_option maxHeartbeats 20000000 in
theorem nandFails_walk (A : Option Addr) (n c0 : Nat) (xs : List Int) (N : Int) (w : World) (hX : Is .i64 w (.slice A n c0) xs) (hwf : ∀ x ∈ xs, (Lit.int .i64 x).wf = true) :
    Calls Try.prog 3 #[.slice A n c0, .int .i64 N] w fun e w' => e = .returned (.bool true) ∧ Below w.heap.size w w' := by
  have HI := Lib.hid (ints_of_is hX)
  have hlen := hX.len
  have HNN := Lib.hid hlen
  have h63 := hX.max
  have HWF := Lib.hid hwf
  have HL := Lib.hid (fun (wr : World) (hb : Below w.heap.size w wr) (k : Nat) (hk : k < xs.length) => (hX.below hb).at.map k hk)
  clear hX hlen hwf
  have hmm := @run_makeMap Try.prog
  have hand := and_127 N
  obtain ⟨m, hm⟩ : ∃ m : Nat, (m : Int) = N % 128 := ⟨(N % 128).toNat, by omega⟩
  rw [← hm] at hand
  have hm8 : m < 128 := by omega
  clear hm
  by_cases h20 : 20 < n
  · go_enter Try.func3, Try.ntmps3
    go_wp2_with (go_at_call 9; refine (nand_speaks _).mono ?_; rintro e w1 ⟨rfl, hb1⟩)
    go_ret
    exact ⟨rfl, hb1⟩
  have HN := Lib.hid (fun (w1 : World) (pb : Nat) => new_any pb 16 (.slice none 0 0) [] [] w1 (by omega) (by omega) (Ints.nil _ _ _ _) rfl)
  go_enter Try.func3, Try.ntmps3
  go_upto_region 6 with (first
    | (go_at_call 9; refine (nand_speaks _).mono ?_; rintro e w1 ⟨rfl, hb1⟩)
    | (go_at_call 10; refine (newPower_any _).mono ?_; rintro e w2 ⟨rfl, hp2, hb2⟩))
  obtain ⟨pb, hpb⟩ : ∃ pb, pb = w1.heap.size := ⟨_, rfl⟩
  simp only [← hpb] at hp2 ⊢
  have hl2 : pb < w2.heap.size := (Array.getElem?_eq_some_iff.1 hp2).1
  have hg2 : w.heap.size ≤ pb := by rw [hpb]; exact hb1.size
  have hb02 := hb1.trans (hb2.mono hb1.size)
  clear hpb hb1 hb2
  go_upto_region 7 with (go_at_call 11; refine (HN.out w2 pb).mono ?_; rintro e w3 ⟨rfl, hb3, hc3⟩)
  go_upto_region 8 with (go_at_call 11; refine (HN.out w3 pb).mono ?_; rintro e w4 ⟨rfl, hb4, hc4⟩)
  have hT := two_new (m := w4.heap.size) (P := pw0) hb02 hg2 hl2 hp2 hb3 hc3 hb4 hc4 (by have := hb02.size; have := hb3.size; have := hb4.size; omega)
  have hcl4 := (hc4 []).ltc
  have hlt4 : ∀ k ∈ [pb, w2.heap.size + 1, w2.heap.size, w3.heap.size + 1, w3.heap.size], k < w4.heap.size := by
    have h3 := (hc3 []).ltc
    have := hb3.size
    intro k hk
    simp at hk
    omega
  obtain ⟨ca, hca⟩ : ∃ ca, ca = w2.heap.size + 1 := ⟨_, rfl⟩
  obtain ⟨ra, hra⟩ : ∃ ra, ra = w2.heap.size := ⟨_, rfl⟩
  obtain ⟨cb, hcb⟩ : ∃ cb, cb = w3.heap.size + 1 := ⟨_, rfl⟩
  obtain ⟨rb, hrb⟩ : ∃ rb, rb = w3.heap.size := ⟨_, rfl⟩
  obtain ⟨mb, hmb⟩ : ∃ mb, mb = w4.heap.size := ⟨_, rfl⟩
  rw [← hca, ← hra, ← hcb, ← hrb, ← hmb] at hT
  rw [← hca, ← hra, ← hcb, ← hrb, ← hmb] at hlt4
  simp only [← hca, ← hcb]
  have hmn : pb ≠ mb ∧ ca ≠ mb ∧ ra ≠ mb ∧ cb ≠ mb ∧ rb ≠ mb := by
    simp at hlt4
    omega
  have HMN := Lib.hid hmn
  obtain ⟨S, hS⟩ : ∃ S, S = [pb, ca, ra, cb, rb, mb] := ⟨_, rfl⟩
  rw [← hS] at hT
  have hmS : mb ∈ S := by rw [hS]; simp
  obtain ⟨W, hW⟩ : ∃ W, W = w4.alloc (.map #[] 0) := ⟨_, rfl⟩
  have hTW : Two w W S pb ca ra cb rb pw0 (newC 16 []) (newC 16 []) := by rw [hW]; exact hT.below ((Below.refl _ _).alloc (Nat.le_refl _) _)
  have hown : W.ownsMap Try.prog 3 (plainElem Try.prog 4) mb 0 (.map [] : DataW Unit) := by rw [hW, hmb]; exact World.ownsMap_made _ _ _ _
  have hSW : ∀ k ∈ S, k < W.heap.size := by
    rw [hS, hW]
    intro k hk
    simp at hk hlt4 ⊢
    omega
  have HSW := Lib.hid hSW
  have HMS := Lib.hid hmS
  have HS := Lib.hid hS
  clear hT hcl4 hlt4 hca hra hcb hrb hmn hS hmS hb02 hg2 hl2 hp2 hb3 hc3 hb4 hc4 hSW
  go_wp2_with fail
  simp only [← hmb, ← hW]
  clear hmb hW hmm
  go_loopw [12, 41] (fun v12 v41 wr => ∃ (k : Nat) (D : DataW Unit), k ≤ n ∧ v41 = .int .i64 k ∧ Two w wr S pb ca ra cb rb pw0 (newC 16 []) (newC 16 []) ∧ wr.ownsMap Try.prog 3 (plainElem Try.prog 4) mb k D ∧ IMap D (xs.take k) ∧ W.heap.size ≤ wr.heap.size) (fun _ v41 _ => n - (intOf v41).toNat)
  case atStart => exact ⟨0, .map [], by omega, rfl, hTW, hown, by rw [List.take_zero]; exact imap_zero, Nat.le_refl _⟩
  case round =>
    obtain ⟨k, D, hk, rfl, hT, hO, hD, hsz⟩ := hrel
    clear hTW hown
    by_cases hlt : k < n
    · have hk1 : (k : Int) < n := by omega
      have hk0 : (0 : Int) ≤ k := by omega
      have hkl : k < xs.length := by rw [← HNN.out]; exact hlt
      obtain ⟨a, rfl, hc⟩ := HL.out wr hT.bl k hkl
      obtain ⟨x, hx⟩ : ∃ x, x = xs[k] := ⟨_, rfl⟩
      have hw := HWF.out x (by rw [hx]; exact List.getElem_mem hkl)
      have HTK := Lib.hid (show xs.take (k + 1) = xs.take k ++ [x] by rw [hx, List.take_append_getElem])
      rw [← hx] at hc
      have HT := Lib.hid hT
      have HD := Lib.hid hD
      have HSZ := Lib.hid hsz
      have HK20 := Lib.hid (show k < 100 by omega)
      clear hx hT hD hkl hsz
      go_wp2_with (at_mapUpdate; refine wpList_mapUpdate_own _ rfl _ _ _ 30 rfl 3 4 law3b Try.underlying30 _ mb k D rfl hO (by have := HK20.out; unfold maxLen; omega) _ _ _ rfl rfl (keyOf_int_mk Try.underlying3 hw) _ [] (plainElem_bool Try.underlying4 _) ?_; intro w4 hO4 hg4)
      go_roundw
      case rel =>
        have g := Chg.grown hg4
        obtain ⟨z0, z1, z2, z3, z4⟩ := HMN.out
        exact ⟨k + 1, _, by omega, by go_num, HT.out.other g HMS.out z0 z1 z2 z3 z4, hO4, by rw [HTK.out]; exact HD.out.step x, Nat.le_trans HSZ.out g.size⟩
      case measure => simp [intOf]; omega
    · obtain rfl : k = n := by omega
      have hD2 : IMap D xs := by rw [HNN.out, List.take_length] at hD; exact hD
      have HFA := Lib.hid (two_fail hT (HI.out.chg (S' := []) (Chg.ofBelow hT.bl) (by simp)) (by have := HNN.out; omega) (fun k hk => Nat.lt_of_lt_of_le (HSW.out k hk) hsz) true)
      have HD := Lib.hid hD2
      have HKN := Lib.hid (show k < 100 by omega)
      have hna : mb ∉ [ca] := by have := HMN.out; simp; omega
      have HNA := Lib.hid hna
      clear hD hD2 hT hsz hna
      go_wp2_with (go_at_call 12; refine HFA.out.mono ?_; rintro e w5 ⟨⟨u, rfl⟩, hT5, hg5⟩; have hO5 := owns_chg hO hg5 HNA.out)
      have hfc : FC xs 0 (failC true xs (newC 16 [])) := fc_fail fc_new xs
      have hfd : FC [] 0 (newC 16 []) := fc_new
      clear hO hg5 HFA HNA
      obtain ⟨c1, hc1⟩ : ∃ c1, c1 = failC true xs (newC 16 []) := ⟨_, rfl⟩
      obtain ⟨d1, hd1⟩ : ∃ d1, d1 = newC 16 [] := ⟨_, rfl⟩
      rw [← hc1] at hT5 hfc
      rw [← hd1] at hT5 hfd
      clear hc1 hd1 hk hlt h20
      go_loopw [13, 14, 15] (fun v13 v14 v15 wr => ∃ (i : Nat) (c d : Ch), i ≤ m ∧ v13 = .int .i64 i ∧ Two w wr S pb ca ra cb rb pw0 c d ∧ FC xs i c ∧ FC [] i d ∧ wr.ownsMap Try.prog 3 (plainElem Try.prog 4) mb k D) (fun v13 _ _ _ => m - (intOf v13).toNat)
      case atStart => exact ⟨0, c1, d1, by omega, rfl, hT5, hfc, hfd, hO5⟩
      case round =>
        obtain ⟨i, c, d, hi, rfl, hT, hfc9, hfd9, hO⟩ := hrel
        clear hT5 hfc hfd hO5
        by_cases hlt : i < m
        · have hk1 : (i : Int) < m := by omega
          have hk0 : (0 : Int) ≤ i := by omega
          have HT := Lib.hid hT
          have HFC := Lib.hid hfc9
          have HFD := Lib.hid hfd9
          have HO := Lib.hid hO
          clear hT hfc9 hfd9 hO
          obtain ⟨x8, hx8⟩ : ∃ x8 : UInt8, encB x8 = .int .u8 (i : Int) := ⟨UInt8.ofNat i, by unfold encB; rw [UInt8.toNat_ofNat']; congr 1; omega⟩
          have HPG := Lib.hid (fun w => page_any x8 w)
          rw [hx8] at HPG
          clear hx8
          have q1 : ((i / 8 : Nat) : Int) = (i : Int) / 8 := by omega
          have q2 : ((i % 8 : Nat) : Int) = (i : Int) % 8 := by omega
          have HPA := Lib.hid (fun (w6 : World) (h : Two w w6 S pb ca ra cb rb pw0 c d) => (by
            have h1 := two_prog ((i / 8 : Nat) : Int) ((i % 8 : Nat) : Int) (pgF x8) h (HFC.out.okay (by omega))
            have h2 := HFC.out.step (by omega) (pgF x8)
            rw [h2.1, h2.2.1, q1, q2] at h1
            rw [q1, q2] at h2
            exact h1.mono (fun e w' h3 => ⟨h3.1, _, h3.2.1, h2.2.2, h3.2.2⟩) : Calls Try.prog 13 #[.pointer (some ⟨ca, 0, none⟩), .int .i64 ((i : Int) / 8), .int .i64 ((i : Int) % 8), .agg (pgL (pgF x8)).toArray] w6 fun e w' =>
              e = .returned (.int .i64 (bif xs.contains (i : Int) then 33 else 0)) ∧ ∃ c', Two w w' S pb ca ra cb rb pw0 c' d ∧ FC xs (i + 1) c' ∧ Chg [pb, ca, ra] w6 w'))
          have HPB := Lib.hid (fun (w6 : World) (c' : Ch) (h : Two w w6 S pb ca ra cb rb pw0 c' d) => (by
            have h1 := two_prog ((i / 8 : Nat) : Int) ((i % 8 : Nat) : Int) (pgF x8) h.swap (HFD.out.okay (by omega))
            have h2 := HFD.out.step (by omega) (pgF x8)
            rw [h2.1, h2.2.1, q1, q2] at h1
            rw [q1, q2] at h2
            exact h1.mono (fun e w' h3 => ⟨h3.1, _, h3.2.1.swap, h2.2.2, h3.2.2⟩) : Calls Try.prog 13 #[.pointer (some ⟨cb, 0, none⟩), .int .i64 ((i : Int) / 8), .int .i64 ((i : Int) % 8), .agg (pgL (pgF x8)).toArray] w6 fun e w' =>
              e = .returned (.int .i64 0) ∧ ∃ d', Two w w' S pb ca ra cb rb pw0 c' d' ∧ FC [] (i + 1) d' ∧ Chg [pb, cb, rb] w6 w'))
          have hmna : mb ∉ [pb, ca, ra] := by have := HMN.out; simp; omega
          have hmnb : mb ∉ [pb, cb, rb] := by have := HMN.out; simp; omega
          have HNA := Lib.hid hmna
          have HNB := Lib.hid hmnb
          have hiw : (Lit.int .i64 (i : Int)).wf = true := by go_wf
          have HIW := Lib.hid hiw
          obtain ⟨r, hr⟩ : ∃ r, r = xs.contains (i : Int) := ⟨_, rfl⟩
          have HLK := Lib.hid (fun (w9 : World) (h : w9.ownsMap Try.prog 3 (plainElem Try.prog 4) mb k D) => (by
            obtain ⟨cc, h1, h2⟩ := lookup_bool h law3b Try.underlying30 Try.underlying4 (zeroBool w9) (keyOf_int_mk Try.underlying3 HIW.out)
            rw [HD.out.2 (i : Int), ← hr] at h2
            injection h2 with h2
            injection h2 with h2
            rw [← h2] at h1
            exact h1 : (Instr.lookup 30 (.map (some mb)) (.int .i64 (i : Int)) false).run Try.prog w9 = .ok (.bool r) w9))
          rw [← hr] at HPA
          clear hr q1 q2 hmna hmnb hiw
          rcases r with _ | _
          · go_wp2_with (first
              | (go_at_call 14; refine (HPG.out _).mono ?_; rintro e w6 ⟨rfl, hb6⟩; have HT1 := Lib.hid (HT.out.below hb6); have HO1 := Lib.hid (owns_chg HO.out (Chg.ofBelow (S := []) hb6) (by simp)); clear hb6 HT HO)
              | (go_at_call 13; refine (HPA.out _ HT1.out).mono ?_; rintro e w7 ⟨rfl, c', hT7, hF7, hg7⟩; have HT2 := Lib.hid hT7; have HF2 := Lib.hid hF7; have HO2 := Lib.hid (owns_chg HO1.out hg7 HNA.out); clear hT7 hF7 hg7 HT1 HO1 HPA)
              | (go_at_call 14; refine (HPG.out _).mono ?_; rintro e w8 ⟨rfl, hb8⟩; have HT3 := Lib.hid (HT2.out.below hb8); have HO3 := Lib.hid (owns_chg HO2.out (Chg.ofBelow (S := []) hb8) (by simp)); clear hb8 HT2 HO2)
              | (go_at_call 13; refine (HPB.out _ _ HT3.out).mono ?_; rintro e w9 ⟨rfl, d', hT9, hF9, hg9⟩; have HT4 := Lib.hid hT9; have HF4 := Lib.hid hF9; have hO9 := owns_chg HO3.out hg9 HNB.out; have hlk := HLK.out w9 hO9; have HO4 := Lib.hid hO9; clear hT9 hF9 hg9 hO9 HT3 HO3 HPB))
            go_roundw
            case rel => exact ⟨i + 1, c', d', by omega, by go_num, HT4.out, HF2.out, HF4.out, HO4.out⟩
            case measure => simp [intOf]; omega
          · go_wp2_with (first
              | (go_at_call 14; refine (HPG.out _).mono ?_; rintro e w6 ⟨rfl, hb6⟩; have HT1 := Lib.hid (HT.out.below hb6); have HO1 := Lib.hid (owns_chg HO.out (Chg.ofBelow (S := []) hb6) (by simp)); clear hb6 HT HO)
              | (go_at_call 13; refine (HPA.out _ HT1.out).mono ?_; rintro e w7 ⟨rfl, c', hT7, hF7, hg7⟩; have HT2 := Lib.hid hT7; have HF2 := Lib.hid hF7; have HO2 := Lib.hid (owns_chg HO1.out hg7 HNA.out); clear hT7 hF7 hg7 HT1 HO1 HPA)
              | (go_at_call 14; refine (HPG.out _).mono ?_; rintro e w8 ⟨rfl, hb8⟩; have HT3 := Lib.hid (HT2.out.below hb8); have HO3 := Lib.hid (owns_chg HO2.out (Chg.ofBelow (S := []) hb8) (by simp)); clear hb8 HT2 HO2)
              | (go_at_call 13; refine (HPB.out _ _ HT3.out).mono ?_; rintro e w9 ⟨rfl, d', hT9, hF9, hg9⟩; have HT4 := Lib.hid hT9; have HF4 := Lib.hid hF9; have hO9 := owns_chg HO3.out hg9 HNB.out; have hlk := HLK.out w9 hO9; have HO4 := Lib.hid hO9; clear hT9 hF9 hg9 hO9 HT3 HO3 HPB))
            go_roundw
            case rel => exact ⟨i + 1, c', d', by omega, by go_num, HT4.out, HF2.out, HF4.out, HO4.out⟩
            case measure => simp [intOf]; omega
        · obtain rfl : i = m := by omega
          have HCN := Lib.hid (count_two hT)
          rw [hfc9.cnt] at HCN
          have HB := Lib.hid hT.bl
          clear hT hfc9 hfd9 hO
          go_wp2_with (go_at_call 15; refine HCN.out.mono ?_; rintro e w6 ⟨rfl, rfl⟩)
          go_ret
          exact ⟨rfl, HB.out⟩
end Go.Proofs.YtofjabejkcicjaaK

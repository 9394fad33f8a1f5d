import Derived.Test.YtoeonmdcoiemmaaKWearR
namespace Go.Proofs.YtoeonmdcoiemmaaK
open Go.RowKit
set_option linter.unusedSimpArgs false
set_option linter.unusedVariables false
set_option maxHeartbeats 4000000 in
theorem wearRoom_walk (bl : Int) (A : Option Addr) (n c : Nat) (ls : List Ld) (w : World) (hX : RS w (.slice A n c) ls) (hwl : ∀ l ∈ ls, 0 ≤ l.wear ∧ l.wear < 18446744073709551616) :
    Calls Try.prog 11 #[.int .i64 bl, .slice A n c] w fun e w' => e = .returned (.bool true) ∧ Below w.heap.size w w' := by
  have HN := Lib.hid hX.len.1
  by_cases h50 : 100 < n
  · clear hX
    go_enter Try.func11, Try.ntmps11
    go_wp2_with (go_at_call 18; refine (wear_speaks _).mono ?_; rintro e w' ⟨rfl, hb⟩)
    all_goals
      go_ret
      exact ⟨rfl, ‹_›⟩
  by_cases h40 : 1099511627776 < bl
  · clear hX
    go_enter Try.func11, Try.ntmps11
    go_wp2_with (go_at_call 18; refine (wear_speaks _).mono ?_; rintro e w' ⟨rfl, hb⟩)
    all_goals
      go_ret
      exact ⟨rfl, ‹_›⟩
  have HWL := Lib.hid hwl
  clear hwl
  have HRm := Lib.hid (fun W => room_any bl W)
  obtain ⟨r, hr⟩ : ∃ r, r = roomI bl := ⟨_, rfl⟩
  rw [← hr] at HRm
  have HR := Lib.hid hr
  clear hr
  go_enter Try.func11, Try.ntmps11
  by_cases h3 : 3 < bl
  · have e1 : IntKind.i64.wrap (bl - 3) = bl - 3 := by rw [IntKind.wrap_i64]; omega
    have e2 : IntKind.i64.wrap (3 * (bl - 3)) = 3 * (bl - 3) := by rw [IntKind.wrap_i64]; omega
    have e3 : IntKind.i64.wrap (3 * (bl - 3) - 2) = 3 * (bl - 3) - 2 := by rw [IntKind.wrap_i64]; omega
    have e4 : r = 3 * (bl - 3) - 2 := by rw [HR.out]; unfold roomI; omega
    have e5 : 0 ≤ 3 * (bl - 3) - 2 := by omega
    subst e4
    go_wp2_with (first
      | (go_at_call 18; refine (wear_speaks _).mono ?_; rintro e w1 ⟨rfl, hb⟩)
      | (go_at_call 22; refine (HRm.out _).mono ?_; rintro e w2 ⟨rfl, rfl⟩))
    have hsz1 := hb.size
    have HLd := Lib.hid (fun W h => loads_any A n c ls W h (by omega))
    have hwb : ∀ i, i < n → 0 ≤ wr' ls i ∧ wr' ls i < 18446744073709551616 := by
      intro i hi
      have hi' : i < ls.length := by rw [← HN.out]; exact hi
      have hg : ls.getD i ldZ = ls[i] := by rw [List.getD_eq_getElem?_getD, List.getElem?_eq_getElem hi']; rfl
      unfold wr'
      rw [hg]; exact HWL.out _ (List.getElem_mem hi')
    have HWB := Lib.hid hwb
    clear hwb
    obtain ⟨wo, hwo⟩ : ∃ wo : World, wo = w1 := ⟨_, rfl⟩
    rw [← hwo] at hb hsz1
    rw [← hwo]
    clear hwo
    go_loopw [6, 8, 10, 33] (fun v6 v8 v10 i wr => ∃ (k : Nat) (g : Int), k ≤ n ∧ i = .int .i64 k ∧ v6 = .int .u64 g ∧ Seen ls n k 0 g ∧ Below w.heap.size w wr) (fun _ _ _ i _ => n - (intOf i).toNat)
    case atStart => exact ⟨0, 0, Nat.zero_le _, rfl, rfl, seen_zero ls n, hb⟩
    case round =>
      obtain ⟨k, g, hk, rfl, rfl, hS, hbk⟩ := hrel
      clear hb
      have hszk := hbk.size
      by_cases hlt : k < n
      · obtain ⟨a, rfl, c0, c1, c2, c3⟩ := (hX.below hbk).get k hlt
        obtain ⟨x, hx⟩ : ∃ x, x = ls.getD k ldZ := ⟨_, rfl⟩
        rw [← hx] at c0 c1 c2 c3
        have hxw : x.wear = wr' ls k := by rw [hx]; rfl
        have HXW := Lib.hid hxw
        clear hx hxw
        go_wp2
        obtain ⟨W1, hW1⟩ : ∃ W1, W1 = wr.alloc (Obj.cells #[.int .u64 x.seq, .int .u64 x.wear, .int .i64 x.blk, .int .i64 x.cnt] 51) := ⟨_, rfl⟩
        obtain ⟨xb, hxb⟩ : ∃ xb, xb = wr.heap.size := ⟨_, rfl⟩
        have hrow : W1.heap[xb]? = some (.cells #[.int .u64 x.seq, .int .u64 x.wear, .int .i64 x.blk, .int .i64 x.cnt] 51 (0, 0)) := by rw [hW1, hxb]; exact heap_alloc_new wr _
        have hb1 : Below w.heap.size w W1 := by rw [hW1]; exact hbk.alloc hszk _
        rw [← hW1, ← hxb]
        clear hW1 hxb c0 c1 c2 c3
        go_loopw [6, 10, 39] (fun v6 v10 i wr => ∃ (j : Nat) (g : Int), j ≤ n ∧ i = .int .i64 j ∧ v6 = .int .u64 g ∧ Seen ls n k j g ∧ wr.heap[xb]? = some (.cells #[.int .u64 x.seq, .int .u64 x.wear, .int .i64 x.blk, .int .i64 x.cnt] 51 (0, 0)) ∧ Below w.heap.size w wr) (fun _ _ i _ => n - (intOf i).toNat)
        case atStart => exact ⟨0, g, Nat.zero_le _, rfl, rfl, hS, hrow, hb1⟩
        case round =>
          obtain ⟨j, g, hj, rfl, rfl, hS, hr, hbj⟩ := hrel
          clear hrow hb1
          have hszj := hbj.size
          by_cases hlj : j < n
          · obtain ⟨a', ha', d0, d1, d2, d3⟩ := (hX.below hbj).get j hlj
            injection ha' with ha'
            subst ha'
            obtain ⟨y, hy⟩ : ∃ y, y = ls.getD j ldZ := ⟨_, rfl⟩
            rw [← hy] at d0 d1 d2 d3
            have hyw : y.wear = wr' ls j := by rw [hy]; rfl
            have HYW := Lib.hid hyw
            clear hy hyw
            have x1 : (wr.alloc (Obj.cells #[.int .u64 y.seq, .int .u64 y.wear, .int .i64 y.blk, .int .i64 y.cnt] 51)).cell? ⟨xb, 1, none⟩ = some (.int .u64 x.wear) := cell_later ((Below.refl _ _).alloc (Nat.le_refl _) _) (cell_of_row wr xb 1 _ _ _ hr)
            have HR2 := Lib.hid (((Below.refl wr.heap.size wr).alloc (Nat.le_refl _) (Obj.cells #[.int .u64 y.seq, .int .u64 y.wear, .int .i64 y.blk, .int .i64 y.cnt] 51)).block xb (Array.getElem?_eq_some_iff.1 hr).1 |>.trans hr)
            have hb2 := hbj.alloc hszj (Obj.cells #[.int .u64 y.seq, .int .u64 y.wear, .int .i64 y.blk, .int .i64 y.cnt] 51)
            clear hr
            have hbx := HWB.out k hlt
            have hby := HWB.out j hlj
            rw [← HXW.out] at hbx
            rw [← HYW.out] at hby
            have hst := fun g' h => hS.step (g' := g') hlt hlj h
            rw [← HXW.out, ← HYW.out] at hst
            have HST := Lib.hid hst
            have hg0 := hS.1
            clear hst
            by_cases hc : y.wear < x.wear
            · have e7 : IntKind.u64.wrap (x.wear - y.wear) = x.wear - y.wear := by rw [IntKind.wrap_u64]; omega
              by_cases hgt : g < x.wear - y.wear
              · go_wp2
                go_roundw
                case rel => exact ⟨j + 1, _, by omega, by go_num, rfl, HST.out _ (by rw [if_pos hc]; omega), HR2.out, hb2⟩
                case measure => simp [intOf]; omega
              · go_wp2
                go_roundw
                case rel => exact ⟨j + 1, _, by omega, by go_num, rfl, HST.out _ (by rw [if_pos hc]; omega), HR2.out, hb2⟩
                case measure => simp [intOf]; omega
            · go_wp2
              go_roundw
              case rel => exact ⟨j + 1, _, by omega, by go_num, rfl, HST.out _ (by rw [if_neg hc]), HR2.out, hb2⟩
              case measure => simp [intOf]; omega
          · obtain rfl : j = n := by omega
            go_wp2
            go_roundw
            case rel => exact ⟨k + 1, g, by omega, by go_num, rfl, hS.row, hbj⟩
            case measure => simp [intOf]; omega
      · obtain rfl : k = n := by omega
        have hXr := hX.below hbk
        by_cases hk0 : k = 0
        · subst hk0
          have hg : g = 0 := by
            rcases hS.2.2.2 with e | ⟨i, q, hi, _⟩
            · exact e
            · omega
          subst hg
          have hl0 : ls.length = 0 := by rw [← HN.out]
          go_wp2_with (first
            | (go_at_call 20; refine (HLd.out _ hXr).mono ?_; rintro e w5 ⟨v, rfl, hw, hb5⟩; have hb6 := hbk.trans (hb5.mono hszk); obtain ⟨A2, c2, rfl, _, _, _⟩ := id hw; rw [hl0])
            | (go_at_call 23; refine (gap_none _ _ _).mono ?_; rintro e w6 ⟨rfl, rfl⟩))
          go_ret
          exact ⟨rfl, hb6⟩
        · have hg := hS.all (by omega)
          have hg0 := hS.1
          have hg64 : g < 18446744073709551616 := by
            rcases hS.2.2.2 with e | ⟨i, q, hi, hq, e⟩
            · omega
            · have := HWB.out i hi; have := HWB.out q hq; omega
          have HGp := Lib.hid (fun W A c h => gap_any A k c ls W h (by omega))
          rw [hg, show IntKind.u64.wrap g = g from by rw [IntKind.wrap_u64]; omega] at HGp
          clear hg
          go_wp2_with (first
            | (go_at_call 20; refine (HLd.out _ hXr).mono ?_; rintro e w5 ⟨v, rfl, hw, hb5⟩; have hb6 := hbk.trans (hb5.mono hszk); obtain ⟨A2, c2, rfl, _, _, _⟩ := id hw; rw [← HN.out] at hw ⊢)
            | (go_at_call 23; refine (HGp.out _ _ _ hw).mono ?_; rintro e w6 ⟨rfl, hb7⟩; have hb8 := hb6.trans (hb7.mono hb6.size)))
          go_ret
          exact ⟨rfl, hb8⟩
  · have e4 : r = 0 := by rw [HR.out]; unfold roomI; omega
    subst e4
    go_wp2_with (first
      | (go_at_call 18; refine (wear_speaks _).mono ?_; rintro e w1 ⟨rfl, hb⟩)
      | (go_at_call 22; refine (HRm.out _).mono ?_; rintro e w2 ⟨rfl, rfl⟩))
    have hsz1 := hb.size
    have HLd := Lib.hid (fun W h => loads_any A n c ls W h (by omega))
    have hwb : ∀ i, i < n → 0 ≤ wr' ls i ∧ wr' ls i < 18446744073709551616 := by
      intro i hi
      have hi' : i < ls.length := by rw [← HN.out]; exact hi
      have hg : ls.getD i ldZ = ls[i] := by rw [List.getD_eq_getElem?_getD, List.getElem?_eq_getElem hi']; rfl
      unfold wr'
      rw [hg]; exact HWL.out _ (List.getElem_mem hi')
    have HWB := Lib.hid hwb
    clear hwb
    obtain ⟨wo, hwo⟩ : ∃ wo : World, wo = w1 := ⟨_, rfl⟩
    rw [← hwo] at hb hsz1
    rw [← hwo]
    clear hwo
    go_loopw [6, 8, 10, 33] (fun v6 v8 v10 i wr => ∃ (k : Nat) (g : Int), k ≤ n ∧ i = .int .i64 k ∧ v6 = .int .u64 g ∧ Seen ls n k 0 g ∧ Below w.heap.size w wr) (fun _ _ _ i _ => n - (intOf i).toNat)
    case atStart => exact ⟨0, 0, Nat.zero_le _, rfl, rfl, seen_zero ls n, hb⟩
    case round =>
      obtain ⟨k, g, hk, rfl, rfl, hS, hbk⟩ := hrel
      clear hb
      have hszk := hbk.size
      by_cases hlt : k < n
      · obtain ⟨a, rfl, c0, c1, c2, c3⟩ := (hX.below hbk).get k hlt
        obtain ⟨x, hx⟩ : ∃ x, x = ls.getD k ldZ := ⟨_, rfl⟩
        rw [← hx] at c0 c1 c2 c3
        have hxw : x.wear = wr' ls k := by rw [hx]; rfl
        have HXW := Lib.hid hxw
        clear hx hxw
        go_wp2
        obtain ⟨W1, hW1⟩ : ∃ W1, W1 = wr.alloc (Obj.cells #[.int .u64 x.seq, .int .u64 x.wear, .int .i64 x.blk, .int .i64 x.cnt] 51) := ⟨_, rfl⟩
        obtain ⟨xb, hxb⟩ : ∃ xb, xb = wr.heap.size := ⟨_, rfl⟩
        have hrow : W1.heap[xb]? = some (.cells #[.int .u64 x.seq, .int .u64 x.wear, .int .i64 x.blk, .int .i64 x.cnt] 51 (0, 0)) := by rw [hW1, hxb]; exact heap_alloc_new wr _
        have hb1 : Below w.heap.size w W1 := by rw [hW1]; exact hbk.alloc hszk _
        rw [← hW1, ← hxb]
        clear hW1 hxb c0 c1 c2 c3
        go_loopw [6, 10, 39] (fun v6 v10 i wr => ∃ (j : Nat) (g : Int), j ≤ n ∧ i = .int .i64 j ∧ v6 = .int .u64 g ∧ Seen ls n k j g ∧ wr.heap[xb]? = some (.cells #[.int .u64 x.seq, .int .u64 x.wear, .int .i64 x.blk, .int .i64 x.cnt] 51 (0, 0)) ∧ Below w.heap.size w wr) (fun _ _ i _ => n - (intOf i).toNat)
        case atStart => exact ⟨0, g, Nat.zero_le _, rfl, rfl, hS, hrow, hb1⟩
        case round =>
          obtain ⟨j, g, hj, rfl, rfl, hS, hr, hbj⟩ := hrel
          clear hrow hb1
          have hszj := hbj.size
          by_cases hlj : j < n
          · obtain ⟨a', ha', d0, d1, d2, d3⟩ := (hX.below hbj).get j hlj
            injection ha' with ha'
            subst ha'
            obtain ⟨y, hy⟩ : ∃ y, y = ls.getD j ldZ := ⟨_, rfl⟩
            rw [← hy] at d0 d1 d2 d3
            have hyw : y.wear = wr' ls j := by rw [hy]; rfl
            have HYW := Lib.hid hyw
            clear hy hyw
            have x1 : (wr.alloc (Obj.cells #[.int .u64 y.seq, .int .u64 y.wear, .int .i64 y.blk, .int .i64 y.cnt] 51)).cell? ⟨xb, 1, none⟩ = some (.int .u64 x.wear) := cell_later ((Below.refl _ _).alloc (Nat.le_refl _) _) (cell_of_row wr xb 1 _ _ _ hr)
            have HR2 := Lib.hid (((Below.refl wr.heap.size wr).alloc (Nat.le_refl _) (Obj.cells #[.int .u64 y.seq, .int .u64 y.wear, .int .i64 y.blk, .int .i64 y.cnt] 51)).block xb (Array.getElem?_eq_some_iff.1 hr).1 |>.trans hr)
            have hb2 := hbj.alloc hszj (Obj.cells #[.int .u64 y.seq, .int .u64 y.wear, .int .i64 y.blk, .int .i64 y.cnt] 51)
            clear hr
            have hbx := HWB.out k hlt
            have hby := HWB.out j hlj
            rw [← HXW.out] at hbx
            rw [← HYW.out] at hby
            have hst := fun g' h => hS.step (g' := g') hlt hlj h
            rw [← HXW.out, ← HYW.out] at hst
            have HST := Lib.hid hst
            have hg0 := hS.1
            clear hst
            by_cases hc : y.wear < x.wear
            · have e7 : IntKind.u64.wrap (x.wear - y.wear) = x.wear - y.wear := by rw [IntKind.wrap_u64]; omega
              by_cases hgt : g < x.wear - y.wear
              · go_wp2
                go_roundw
                case rel => exact ⟨j + 1, _, by omega, by go_num, rfl, HST.out _ (by rw [if_pos hc]; omega), HR2.out, hb2⟩
                case measure => simp [intOf]; omega
              · go_wp2
                go_roundw
                case rel => exact ⟨j + 1, _, by omega, by go_num, rfl, HST.out _ (by rw [if_pos hc]; omega), HR2.out, hb2⟩
                case measure => simp [intOf]; omega
            · go_wp2
              go_roundw
              case rel => exact ⟨j + 1, _, by omega, by go_num, rfl, HST.out _ (by rw [if_neg hc]), HR2.out, hb2⟩
              case measure => simp [intOf]; omega
          · obtain rfl : j = n := by omega
            go_wp2
            go_roundw
            case rel => exact ⟨k + 1, g, by omega, by go_num, rfl, hS.row, hbj⟩
            case measure => simp [intOf]; omega
      · obtain rfl : k = n := by omega
        have hXr := hX.below hbk
        by_cases hk0 : k = 0
        · subst hk0
          have hg : g = 0 := by
            rcases hS.2.2.2 with e | ⟨i, q, hi, _⟩
            · exact e
            · omega
          subst hg
          have hl0 : ls.length = 0 := by rw [← HN.out]
          go_wp2_with (first
            | (go_at_call 20; refine (HLd.out _ hXr).mono ?_; rintro e w5 ⟨v, rfl, hw, hb5⟩; have hb6 := hbk.trans (hb5.mono hszk); obtain ⟨A2, c2, rfl, _, _, _⟩ := id hw; rw [hl0])
            | (go_at_call 23; refine (gap_none _ _ _).mono ?_; rintro e w6 ⟨rfl, rfl⟩))
          go_ret
          exact ⟨rfl, hb6⟩
        · have hg := hS.all (by omega)
          have hg0 := hS.1
          have hg64 : g < 18446744073709551616 := by
            rcases hS.2.2.2 with e | ⟨i, q, hi, hq, e⟩
            · omega
            · have := HWB.out i hi; have := HWB.out q hq; omega
          have HGp := Lib.hid (fun W A c h => gap_any A k c ls W h (by omega))
          rw [hg, show IntKind.u64.wrap g = g from by rw [IntKind.wrap_u64]; omega] at HGp
          clear hg
          go_wp2_with (first
            | (go_at_call 20; refine (HLd.out _ hXr).mono ?_; rintro e w5 ⟨v, rfl, hw, hb5⟩; have hb6 := hbk.trans (hb5.mono hszk); obtain ⟨A2, c2, rfl, _, _, _⟩ := id hw; rw [← HN.out] at hw ⊢)
            | (go_at_call 23; refine (HGp.out _ _ _ hw).mono ?_; rintro e w6 ⟨rfl, hb7⟩; have hb8 := hb6.trans (hb7.mono hb6.size)))
          go_ret
          exact ⟨rfl, hb8⟩
end Go.Proofs.YtoeonmdcoiemmaaK

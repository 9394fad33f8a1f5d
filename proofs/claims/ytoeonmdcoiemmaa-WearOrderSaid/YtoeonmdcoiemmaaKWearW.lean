import Derived.Test.YtoeonmdcoiemmaaKWearL
namespace Go.Proofs.YtoeonmdcoiemmaaK
open Go.RowKit
set_option linter.unusedSimpArgs false
set_option linter.unusedVariables false
theorem lastP_yes {ls : List Ld} {k : Nat} (h : (ls.getD (lastP ls k) ldZ).seq < (ls.getD k ldZ).seq) : lastP ls (k + 1) = k := if_pos h
theorem lastP_no {ls : List Ld} {k : Nat} (h : ¬ (ls.getD (lastP ls k) ldZ).seq < (ls.getD k ldZ).seq) : lastP ls (k + 1) = lastP ls k := if_neg h
/-- Which one is emptied: its place. -/
def vict (ls : List Ld) : Option Nat := bestP ls (lastP ls ls.length : Nat) ls.length
set_option maxHeartbeats 2000000 in
theorem victim_any (A : Option Addr) (n c : Nat) (ls : List Ld) (w : World) (hX : WS w (.slice A n c) ls) :
    Calls Try.prog 19 #[.slice A n c] w fun e w' => e = .returned (.tuple #[.int .i64 (((vict ls).getD 0 : Nat) : Int), .bool (vict ls).isSome]) ∧ Below w.heap.size w w' := by
  have HN := Lib.hid hX.len.1
  have hmx := hX.len.2
  go_enter Try.func19, Try.ntmps19
  go_wp2
  go_loopw [4, 5, 6, 9] (fun v4 v5 v6 i wr => ∃ (k p : Nat), k ≤ n ∧ i = .int .i64 k ∧ p = lastP ls k ∧ v4 = .int .i64 p ∧ Below w.heap.size w wr) (fun _ _ _ i _ => n - (intOf i).toNat)
  case atStart => exact ⟨0, 0, Nat.zero_le _, rfl, rfl, rfl, Below.refl _ _⟩
  case round =>
    obtain ⟨k, p, hk, rfl, hp, rfl, hb⟩ := hrel
    have hsz := hb.size
    by_cases hlt : k < n
    · have hpn : p < n := by rw [hp]; exact lastP_lt ls k n hk (by omega)
      have hpn' : (p : Int) < n := by omega
      obtain ⟨a, rfl, c0, c1, c2, c3, c4⟩ := (hX.below hb).get k hlt
      obtain ⟨x, hx⟩ : ∃ x, x = ls.getD k ldZ := ⟨_, rfl⟩
      obtain ⟨y, hy⟩ : ∃ y, y = ls.getD p ldZ := ⟨_, rfl⟩
      rw [← hx] at c0 c1 c2 c4
      have hba := hb.alloc hsz (Obj.cells #[.int .i64 x.blk, .int .u64 x.seq, .int .u64 x.wear, .slice none 0 0, .int .i64 x.cnt] 70)
      obtain ⟨a', ha', d0, d1, d2, d3, d4⟩ := (hX.below hba).get p hpn
      injection ha' with ha'
      subst ha'
      rw [← hy] at d0 d1 d2 d4
      have hy1 : (wr.alloc (Obj.cells #[.int .i64 x.blk, .int .u64 x.seq, .int .u64 x.wear, .slice none 0 0, .int .i64 x.cnt] 70)).cell? ⟨wr.heap.size, 1, none⟩ = some (.int .u64 x.seq) := cell_of_row _ _ 1 _ _ _ (heap_alloc_new wr _)
      by_cases hc : y.seq < x.seq
      · have hst : k = lastP ls (k + 1) := by rw [lastP_yes (by rw [← hp, ← hy, ← hx]; exact hc)]
        have HST := Lib.hid hst
        clear hx hy hp hst d0 d2 d3 d4
        go_wp2
        go_quiet (fail)
        go_wp2
        go_roundw
        case rel => exact ⟨k + 1, k, by omega, by go_num, HST.out, rfl, below_drewN hba⟩
        case measure => simp [intOf]; omega
      · have hst : p = lastP ls (k + 1) := by rw [lastP_no (by rw [← hp, ← hy, ← hx]; exact hc)]; exact hp
        have HST := Lib.hid hst
        clear hx hy hp hst d0 d2 d3 d4
        go_wp2
        go_quiet (fail)
        go_wp2
        go_roundw
        case rel => exact ⟨k + 1, p, by omega, by go_num, HST.out, rfl, below_drewN hba⟩
        case measure => simp [intOf]; omega
    · obtain rfl : k = n := by omega
      have HC := Lib.hid (least_any A k c ls (p : Int) wr (hX.below hb))
      have hv : vict ls = bestP ls (p : Int) k := by unfold vict; rw [← HN.out, hp]
      have HV := Lib.hid hv
      obtain ⟨r, hr⟩ : ∃ r, r = bestP ls (p : Int) k := ⟨_, rfl⟩
      have HR := Lib.hid hr
      rw [← hr] at HC
      clear hv hp hr
      go_wp2_with (go_at_call 31; refine HC.out.mono ?_; rintro e w5 ⟨rfl, hb5⟩; have hb6 := hb.trans (hb5.mono hsz))
      go_ret2
      exact ⟨by rw [HV.out, ← HR.out]; rfl, hb6⟩
end Go.Proofs.YtoeonmdcoiemmaaK

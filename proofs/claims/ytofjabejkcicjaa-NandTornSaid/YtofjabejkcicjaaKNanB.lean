import Derived.Test.YtofjabejkcicjaaKNanA
namespace Go.Proofs.YtofjabejkcicjaaK
open Go.RowKit
set_option linter.unusedSimpArgs false
set_option linter.unusedVariables false
/-! Cut, On, may. -/
set_option maxHeartbeats 4000000 in
theorem on_any (pb : Nat) (off : Bool) (aft keep : Int) (w : World) (h : Pwr w pb off aft keep) : Calls Try.prog 20 #[.pointer (some ⟨pb, 0, none⟩)] w fun e w' => (∃ u, e = .returned u) ∧ Pwr w' pb false (-1) keep ∧ w.grownBy w' (some pb) := by
  have H := Lib.hid h
  have c0 := cellP h 0
  have c1 := cellP h 1
  have f0 := frozenP h 0
  have f1 := frozenP h 1
  clear h
  go_enter Try.func20, Try.ntmps20
  go_wp2_with fail
  go_end0
  exact ⟨⟨_, rfl⟩, Go.Joins.block_setCell (Go.Joins.block_setCell H.out _) _, grownT (grownP w pb 0 _) (grownP _ pb 1 _)⟩
set_option maxHeartbeats 4000000 in
theorem pcut_any (pb : Nat) (off : Bool) (aft keep a k : Int) (w : World) (h : Pwr w pb off aft keep) : Calls Try.prog 17 #[.pointer (some ⟨pb, 0, none⟩), .int .i64 a, .int .i64 k] w fun e w' => (∃ u, e = .returned u) ∧ Pwr w' pb off (max a (-1)) k ∧ w.grownBy w' (some pb) := by
  have H := Lib.hid h
  have c1 := cellP h 1
  have c2 := cellP h 2
  have f1 := frozenP h 1
  have f2 := frozenP h 2
  clear h
  by_cases ha : a < -1
  · rw [show max a (-1) = -1 from by omega]
    go_enter Try.func17, Try.ntmps17
    go_wp2_with fail
    go_end0
    exact ⟨⟨_, rfl⟩, Go.Joins.block_setCell (Go.Joins.block_setCell H.out _) _, grownT (grownP w pb 1 _) (grownP _ pb 2 _)⟩
  · rw [show max a (-1) = a from by omega]
    go_enter Try.func17, Try.ntmps17
    go_wp2_with fail
    go_end0
    exact ⟨⟨_, rfl⟩, Go.Joins.block_setCell (Go.Joins.block_setCell H.out _) _, grownT (grownP w pb 1 _) (grownP _ pb 2 _)⟩
def mayI (off live : Bool) (n : Nat) (b p : Int) : Int := if off = true then 30 else if live = false then 31 else if (decide (0 ≤ b) && decide (b < n)) = false then 1 else if p < 0 then 1 else if 8 ≤ p then 1 else 0
set_option maxHeartbeats 8000000 in
theorem may_any (cb pb : Nat) (A : Option Addr) (n c : Nat) (dead out : Bool) (w1 : Value) (n1 : Int) (w2 : Value) (n2 cnt : Int) (off : Bool) (aft keep b p : Int) (w : World) (h : Chp w cb pb (.slice A n c) dead out w1 n1 w2 n2 cnt) (hp : Pwr w pb off aft keep) :
    Calls Try.prog 37 #[.pointer (some ⟨cb, 0, none⟩), .int .i64 b, .int .i64 p] w fun e w' => e = .returned (.int .i64 (mayI off (!dead && !out) n b p)) ∧ w = w' := by
  have c0 := cellP h 0
  have HO := Lib.hid (off_any pb off aft keep w hp)
  have HL := Lib.hid (live_any cb pb _ dead out w1 n1 w2 n2 cnt w h)
  have HT := Lib.hid (there_any cb pb A n c dead out w1 n1 w2 n2 cnt b w h)
  clear h hp
  obtain ⟨lv, hlv⟩ : ∃ x, x = (!dead && !out) := ⟨_, rfl⟩
  obtain ⟨th, hth⟩ : ∃ x, x = (decide (0 ≤ b) && decide (b < n)) := ⟨_, rfl⟩
  rw [← hlv] at HL ⊢
  rw [← hth] at HT
  unfold mayI
  rw [← hth]
  clear hlv hth
  have A1 : True := trivial
  rcases off with _ | _
  rotate_left
  · rw [if_pos rfl]
    go_enter Try.func37, Try.ntmps37
    go_wp2_with (go_at_call 18; refine HO.out.mono ?_; rintro e w2 ⟨rfl, rfl⟩)
    go_ret
    exact ⟨rfl, rfl⟩
  rw [if_neg (by decide)]
  rcases lv with _ | _
  · rw [if_pos rfl]
    go_enter Try.func37, Try.ntmps37
    go_wp2_with (first | (go_at_call 18; refine HO.out.mono ?_; rintro e w2 ⟨rfl, rfl⟩) | (go_at_call 24; refine HL.out.mono ?_; rintro e w2 ⟨rfl, rfl⟩))
    go_ret
    exact ⟨rfl, rfl⟩
  rw [if_neg (by decide)]
  rcases th with _ | _
  · rw [if_pos rfl]
    go_enter Try.func37, Try.ntmps37
    go_wp2_with (first | (go_at_call 18; refine HO.out.mono ?_; rintro e w2 ⟨rfl, rfl⟩) | (go_at_call 24; refine HL.out.mono ?_; rintro e w2 ⟨rfl, rfl⟩) | (go_at_call 33; refine HT.out.mono ?_; rintro e w2 ⟨rfl, rfl⟩))
    go_ret
    exact ⟨rfl, rfl⟩
  rw [if_neg (by decide)]
  by_cases hp0 : p < 0
  · rw [if_pos hp0]
    go_enter Try.func37, Try.ntmps37
    go_wp2_with (first | (go_at_call 18; refine HO.out.mono ?_; rintro e w2 ⟨rfl, rfl⟩) | (go_at_call 24; refine HL.out.mono ?_; rintro e w2 ⟨rfl, rfl⟩) | (go_at_call 33; refine HT.out.mono ?_; rintro e w2 ⟨rfl, rfl⟩))
    go_ret
    exact ⟨rfl, rfl⟩
  rw [if_neg hp0]
  by_cases hp8 : 8 ≤ p
  · rw [if_pos hp8]
    go_enter Try.func37, Try.ntmps37
    go_wp2_with (first | (go_at_call 18; refine HO.out.mono ?_; rintro e w2 ⟨rfl, rfl⟩) | (go_at_call 24; refine HL.out.mono ?_; rintro e w2 ⟨rfl, rfl⟩) | (go_at_call 33; refine HT.out.mono ?_; rintro e w2 ⟨rfl, rfl⟩))
    go_ret
    exact ⟨rfl, rfl⟩
  rw [if_neg hp8]
  go_enter Try.func37, Try.ntmps37
  go_wp2_with (first | (go_at_call 18; refine HO.out.mono ?_; rintro e w2 ⟨rfl, rfl⟩) | (go_at_call 24; refine HL.out.mono ?_; rintro e w2 ⟨rfl, rfl⟩) | (go_at_call 33; refine HT.out.mono ?_; rintro e w2 ⟨rfl, rfl⟩))
  go_ret
  exact ⟨rfl, rfl⟩
end Go.Proofs.YtofjabejkcicjaaK

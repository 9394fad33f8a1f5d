import Derived.Test.YtoeonmdcoiemmaaKWearY
namespace Go.Proofs.YtoeonmdcoiemmaaK
open Go.RowKit
set_option linter.unusedSimpArgs false
set_option linter.unusedVariables false
/-- How many records may count. -/
def roomI (b : Int) : Int := max 0 ((min (max b 0) 1099511627776 - 3) * 3 - 2)
theorem room_any (b : Int) (w : World) : Calls Try.prog 22 #[.int .i64 b] w fun e w' => e = .returned (.int .i64 (roomI b)) ∧ w = w' := by
  by_cases h1 : b ≤ 0
  · go_enter Try.func22, Try.ntmps22
    go_wp2
    all_goals
      go_ret
      refine ⟨?_, rfl⟩
      show Ending.returned (Value.int .i64 _) = _
      congr 2
      unfold roomI
      omega
  by_cases h2 : 1099511627776 ≤ b
  · go_enter Try.func22, Try.ntmps22
    go_wp2
    all_goals
      go_ret
      refine ⟨?_, rfl⟩
      show Ending.returned (Value.int .i64 _) = _
      congr 2
      unfold roomI
      omega
  have e1 : IntKind.i64.wrap (b - 3) = b - 3 := by rw [IntKind.wrap_i64]; omega
  have e2 : IntKind.i64.wrap ((b - 3) * 3) = (b - 3) * 3 := by rw [IntKind.wrap_i64]; omega
  have e3 : IntKind.i64.wrap ((b - 3) * 3 - 2) = (b - 3) * 3 - 2 := by rw [IntKind.wrap_i64]; omega
  go_enter Try.func22, Try.ntmps22
  go_wp2
  all_goals
    go_ret
    refine ⟨?_, rfl⟩
    show Ending.returned (Value.int .i64 _) = _
    congr 2
    unfold roomI
    omega
theorem RS.new3 {w : World} {b : Nat} {T : TypeId} {x y z : Ld} (hb : b = w.heap.size) : RS (w.alloc (.cells (encR x ++ encR y ++ encR z).toArray T)) (.slice (some ⟨b, 0, none⟩) 3 3) [x, y, z] := by
  subst hb
  refine ⟨_, _, rfl, Nat.le_refl _, by simp, ?_⟩
  have h := At.new w (encR x ++ encR y ++ encR z).toArray T (0, 0)
  simpa using h
set_option maxHeartbeats 1000000 in
theorem wear_speaks (w : World) : Calls Try.prog 18 #[] w fun e w' => e = .returned (.bool true) ∧ Below w.heap.size w w' := by
  have HL := Lib.hid (fun W A c h => loads_any A 3 c [⟨1, 0, 0, 3⟩, ⟨2, 0, 0, 1⟩, ⟨3, 0, 0, 1⟩] W h (by decide))
  have HR := Lib.hid (room_any 14)
  rw [show roomI 14 = 31 from by decide] at HR
  have hv : vict [⟨1, 0, 0, 3⟩, ⟨2, 0, 0, 1⟩, ⟨3, 0, 0, 1⟩] = some 1 := by decide
  have HV := Lib.hid (fun W A n c h => victim_any A n c [⟨1, 0, 0, 3⟩, ⟨2, 0, 0, 1⟩, ⟨3, 0, 0, 1⟩] W h)
  rw [hv] at HV
  clear hv
  go_enter Try.func18, Try.ntmps18
  go_wp2_with (first
    | (go_at_call 20; refine (HL.out _ _ _ (RS.new3 (x := ⟨1, 0, 0, 3⟩) (y := ⟨2, 0, 0, 1⟩) (z := ⟨3, 0, 0, 1⟩) rfl)).mono ?_; rintro e w2 ⟨v, rfl, hw, hb2⟩; have hb3 := ((Below.refl w.heap.size w).alloc (Nat.le_refl _) _).trans (hb2.mono (by simp)); obtain ⟨A2, c2, rfl, _, _, _⟩ := id hw)
    | (go_at_call 19; refine (HV.out _ _ _ _ hw).mono ?_; rintro e w3 ⟨rfl, hb4⟩; have hb5 := hb3.trans (hb4.mono hb3.size))
    | (go_at_call 22; refine (HR.out _).mono ?_; rintro e w4 ⟨rfl, rfl⟩))
  go_ret
  exact ⟨rfl, hb5⟩
set_option maxHeartbeats 1000000 in
theorem wearVictims_walk (A : Option Addr) (n c : Nat) (ls : List Ld) (w : World) (hX : RS w (.slice A n c) ls) :
    Calls Try.prog 8 #[.slice A n c] w fun e w' => e = .returned (.bool true) ∧ Below w.heap.size w w' := by
  by_cases h50 : 100 < n
  · clear hX
    go_enter Try.func8, Try.ntmps8
    go_wp2_with (go_at_call 18; refine (wear_speaks _).mono ?_; rintro e w' ⟨rfl, hb⟩)
    go_ret
    exact ⟨rfl, ‹_›⟩
  have HL := Lib.hid (fun W h => loads_any A n c ls W h (by omega))
  have HV := Lib.hid (fun W A n c h => victim_any A n c ls W h)
  have HR := Lib.hid (fun W h => rvictim_any A n c ls W h)
  obtain ⟨r, hr⟩ : ∃ r, r = vict ls := ⟨_, rfl⟩
  rw [← hr] at HV HR
  clear hr
  cases r with
  | none =>
    have HR2 : Hid (∀ W, RS W (.slice A n c) ls → Calls Try.prog 21 #[.slice A n c] W fun e w' => e = .returned (.int .i64 (-1)) ∧ Below W.heap.size W w') := HR
    clear HR
    go_enter Try.func8, Try.ntmps8
    go_wp2_with (first
      | (go_at_call 18; refine (wear_speaks _).mono ?_; rintro e w1 ⟨rfl, hb⟩)
      | (go_at_call 20; refine (HL.out _ (hX.below hb)).mono ?_; rintro e w2 ⟨v, rfl, hw, hb2⟩; have hb3 := hb.trans (hb2.mono hb.size); obtain ⟨A2, c2, rfl, _, _, _⟩ := id hw)
      | (go_at_call 19; refine (HV.out _ _ _ _ hw).mono ?_; rintro e w3 ⟨rfl, hb4⟩; have hb5 := hb3.trans (hb4.mono hb3.size))
      | (go_at_call 21; refine (HR2.out _ (hX.below hb5)).mono ?_; rintro e w4 ⟨rfl, hb6⟩; have hb7 := hb5.trans (hb6.mono hb5.size)))
    go_ret
    exact ⟨rfl, hb7⟩
  | some q =>
    have HR2 : Hid (∀ W, RS W (.slice A n c) ls → Calls Try.prog 21 #[.slice A n c] W fun e w' => e = .returned (.int .i64 (q : Int)) ∧ Below W.heap.size W w') := HR
    clear HR
    have hq0 : (0 : Int) ≤ q := by omega
    go_enter Try.func8, Try.ntmps8
    go_wp2_with (first
      | (go_at_call 18; refine (wear_speaks _).mono ?_; rintro e w1 ⟨rfl, hb⟩)
      | (go_at_call 20; refine (HL.out _ (hX.below hb)).mono ?_; rintro e w2 ⟨v, rfl, hw, hb2⟩; have hb3 := hb.trans (hb2.mono hb.size); obtain ⟨A2, c2, rfl, _, _, _⟩ := id hw)
      | (go_at_call 19; refine (HV.out _ _ _ _ hw).mono ?_; rintro e w3 ⟨rfl, hb4⟩; have hb5 := hb3.trans (hb4.mono hb3.size))
      | (go_at_call 21; refine (HR2.out _ (hX.below hb5)).mono ?_; rintro e w4 ⟨rfl, hb6⟩; have hb7 := hb5.trans (hb6.mono hb5.size)))
    go_ret
    exact ⟨rfl, hb7⟩
end Go.Proofs.YtoeonmdcoiemmaaK

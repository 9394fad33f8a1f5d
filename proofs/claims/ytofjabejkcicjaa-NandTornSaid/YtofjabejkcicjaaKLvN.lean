import Derived.Test.YtofjabejkcicjaaKOncW
namespace Go.Proofs.YtofjabejkcicjaaK
open Go.RowKit
set_option linter.unusedSimpArgs false
set_option linter.unusedVariables false
/-! Die, Put; NandLive's plain law. -/
set_option maxHeartbeats 4000000 in
theorem die_any (S : List Nat) (pb cb rb : Nat) (c : Ch) (w : World) (hC : ChW w S pb cb rb c) (hcr : cb ≠ rb) (hsc : cb ∈ S) :
    Calls Try.prog 22 #[.pointer (some ⟨cb, 0, none⟩)] w fun e w' => (∃ u, e = .returned u) ∧ ChW w' S pb cb rb { c with dead := true } ∧ Chg [cb] w w' := by
  obtain ⟨n, M, nx, bd, dead, out, pw, pc, ww, wc, cnt⟩ := c
  obtain ⟨v1, v2, hCh, hI1, hI2, hR⟩ := hC
  dsimp only at *
  have c2 := cellP hCh 2
  have f2 := frozenP hCh 2
  have g : Chg [cb] w (w.setCell ⟨cb, 2, none⟩ (.bool true)) := (Chg.refl _ _).set ⟨cb, 2, none⟩ (by simp) _
  have HF := Lib.hid (show ChW (w.setCell ⟨cb, 2, none⟩ (.bool true)) S pb cb rb ⟨n, M, nx, bd, true, out, pw, pc, ww, wc, cnt⟩ ∧ Chg [cb] w (w.setCell ⟨cb, 2, none⟩ (.bool true)) from
    ⟨⟨v1, v2, Go.Joins.block_setCell (i := 2) hCh (.bool true), hI1.chg g (by simpa using hsc), hI2.chg g (by simpa using hsc), hR.chg g (by simpa using Ne.symm hcr)⟩, g⟩)
  clear hCh hI1 hI2 hR g
  go_enter Try.func22, Try.ntmps22
  go_wp2_with fail
  go_end0
  exact ⟨⟨_, rfl⟩, HF.out⟩
set_option maxHeartbeats 4000000 in
theorem put_any (S : List Nat) (pb cb rb : Nat) (c : Ch) (i : Bool) (w : World) (hC : ChW w S pb cb rb c) (hcr : cb ≠ rb) (hsc : cb ∈ S) :
    Calls Try.prog 23 #[.pointer (some ⟨cb, 0, none⟩), .bool i] w fun e w' => (∃ u, e = .returned u) ∧ ChW w' S pb cb rb { c with out := !i } ∧ Chg [cb] w w' := by
  obtain ⟨n, M, nx, bd, dead, out, pw, pc, ww, wc, cnt⟩ := c
  obtain ⟨v1, v2, hCh, hI1, hI2, hR⟩ := hC
  dsimp only at *
  have c3 := cellP hCh 3
  have f3 := frozenP hCh 3
  have g : Chg [cb] w (w.setCell ⟨cb, 3, none⟩ (.bool (!i))) := (Chg.refl _ _).set ⟨cb, 3, none⟩ (by simp) _
  have HF := Lib.hid (show ChW (w.setCell ⟨cb, 3, none⟩ (.bool (!i))) S pb cb rb ⟨n, M, nx, bd, dead, !i, pw, pc, ww, wc, cnt⟩ ∧ Chg [cb] w (w.setCell ⟨cb, 3, none⟩ (.bool (!i))) from
    ⟨⟨v1, v2, Go.Joins.block_setCell (i := 3) hCh (.bool (!i)), hI1.chg g (by simpa using hsc), hI2.chg g (by simpa using hsc), hR.chg g (by simpa using Ne.symm hcr)⟩, g⟩)
  clear hCh hI1 hI2 hR g
  go_enter Try.func23, Try.ntmps23
  go_wp2_with fail
  go_end0
  exact ⟨⟨_, rfl⟩, HF.out⟩
section
variable {w0 w w' : World} {pb cb rb : Nat} {P P' : Pw} {c c' : Ch}
theorem one_die (h : One w0 w pb cb rb P c) : Calls Try.prog 22 #[.pointer (some ⟨cb, 0, none⟩)] w fun e w' => (∃ u, e = .returned u) ∧ One w0 w' pb cb rb P { c with dead := true } := by
  refine (die_any _ pb cb rb c w h.c h.a.cr h.a.sc).mono ?_
  rintro e w' ⟨hu, h1, h3⟩
  exact ⟨hu, h.go (h.p.chg h3 (by simpa using h.a.pc)) h1 (h3.mono (by simp))⟩
theorem one_put (i : Bool) (h : One w0 w pb cb rb P c) : Calls Try.prog 23 #[.pointer (some ⟨cb, 0, none⟩), .bool i] w fun e w' => (∃ u, e = .returned u) ∧ One w0 w' pb cb rb P { c with out := !i } := by
  refine (put_any _ pb cb rb c i w h.c h.a.cr h.a.sc).mono ?_
  rintro e w' ⟨hu, h1, h3⟩
  exact ⟨hu, h.go (h.p.chg h3 (by simpa using h.a.pc)) h1 (h3.mono (by simp))⟩
end
/-- The chip of NandLive: page 0 of block 4 is written. -/
structure LI (F : Nat → UInt8) (c : Ch) : Prop where
  n : c.n = 16
  k : Okay pw0 c
  pg : ∀ i, i < 258 → c.M 4 0 i = F i
def lvC (c : Ch) (d o : Bool) : Ch := { c with dead := d, out := o }
section
variable {F : Nat → UInt8} {c : Ch}
theorem LI.lv (h : LI F c) (d o : Bool) : LI F (lvC c d o) := ⟨h.n, ⟨h.k.a1, h.k.a2, h.k.p1, h.k.p2, h.k.w1, h.k.w2, h.k.c1, h.k.c2⟩, h.pg⟩
theorem LI.may (h : LI F c) (d o : Bool) (b p : Int) (hb : b = 4) (hp : p = 0 ∨ p = 1) : mayC pw0 (lvC c d o) b p = bif (!d && !o) then 0 else 31 := by
  unfold mayC mayI
  show (if false = true then 30 else if (!d && !o) = false then 31 else if (decide (0 ≤ b) && decide (b < (c.n : Int))) = false then 1 else if p < 0 then 1 else if 8 ≤ p then 1 else 0) = _
  rw [if_neg (by decide), h.n, hb]
  rcases h3 : (!d && !o) with _ | _
  · rw [if_pos rfl]; rfl
  · rw [if_neg (by decide), if_neg (by decide), if_neg (by omega), if_neg (by omega)]; rfl
theorem LI.read (h : LI F c) : pgL (readD pw0 (lvC c false false) 4 0) = pgL F := by
  unfold readD
  have hm : mayC pw0 (lvC c false false) 4 0 = 0 := h.may false false 4 0 rfl (.inl rfl)
  rw [if_pos hm]
  exact pgL_congr h.pg
theorem LI.shut (h : LI F c) (d o : Bool) (hx : (!d && !o) = false) (D : Nat → UInt8) : eraE pw0 (lvC c d o) 4 = 31 ∧ eraP pw0 (lvC c d o) 4 = pw0 ∧ eraC pw0 (lvC c d o) 4 = lvC c d o ∧
    progE pw0 (lvC c d o) 4 1 = 31 ∧ progP pw0 (lvC c d o) 4 1 = pw0 ∧ progC pw0 (lvC c d o) 4 1 D = lvC c d o := by
  have h0 := h.may d o 4 0 rfl (.inl rfl)
  have h1 := h.may d o 4 1 rfl (.inr rfl)
  rw [hx] at h0 h1
  have h0' : mayC pw0 (lvC c d o) 4 0 = 31 := h0
  have h1' : mayC pw0 (lvC c d o) 4 1 = 31 := h1
  have hn : ¬ progOn pw0 (lvC c d o) 4 1 := fun e => by have := e.1; omega
  refine ⟨?_, ?_, ?_, ?_, if_neg hn, if_neg hn⟩
  · unfold eraE
    rw [h0', if_pos (by decide)]
  · unfold eraP
    rw [h0', if_neg (by decide)]
  · unfold eraC
    rw [h0', if_neg (by decide)]
  · unfold progE
    rw [h1', if_pos (by decide)]
theorem and_255 (x : UInt8) : (255 : UInt8) &&& x = x := by
  apply UInt8.toNat_inj.1
  rw [UInt8.toNat_and]
  have hx := x.toNat_lt
  rw [Nat.and_comm, show (255 : UInt8).toNat = 2 ^ 8 - 1 from rfl, Nat.and_two_pow_sub_one_eq_mod]
  omega
theorem live_new (F : Nat → UInt8) : progE pw0 (newC 16 []) 4 0 = 0 ∧ progP pw0 (newC 16 []) 4 0 = pw0 ∧ ∃ c, progC pw0 (newC 16 []) 4 0 F = lvC c false false ∧ LI F c := by
  have hon : progOn pw0 (newC 16 []) 4 0 := ⟨rfl, rfl⟩
  have hc : progC pw0 (newC 16 []) 4 0 F = progD pw0 (newC 16 []) 4 0 F 258 := by
    unfold progC
    rw [if_pos hon]; rfl
  refine ⟨rfl, if_pos hon, progD pw0 (newC 16 []) 4 0 F 258, by rw [hc]; rfl, rfl, progD_okay (ok_new 16 []) (by simp [newC]) (by simp [newC]) _ (by simp [pw0]) (by simp [pw0]), fun i hi => ?_⟩
  show updP (newM 16) 4 0 (wrG (newM 16 4 0) F 258) 4 0 i = F i
  rw [updP_same]
  unfold wrG
  rw [if_pos hi]
  show (255 : UInt8) &&& F i = F i
  exact and_255 _
end
end Go.Proofs.YtofjabejkcicjaaK

import Derived.Test.YtofjabejkcicjaaKLvN
namespace Go.Proofs.YtofjabejkcicjaaK
open Go.RowKit
set_option linter.unusedSimpArgs false
set_option linter.unusedVariables false
/-! NandTorn's plain law. -/
structure TI (F : Nat → UInt8) (c : Ch) : Prop where
  n : c.n = 16
  dead : c.dead = false
  out : c.out = false
  pw : c.pw = []
  ww : c.ww = []
  bd : c.bd 2 = false
  nx : c.nx 2 = 1
  k : Okay pw0 c
  s1 : c.pc ≤ 10
  s2 : c.wc ≤ 10
  s3 : c.cnt ≤ 10
  pg0 : ∀ i, i < 258 → c.M 2 0 i = F i
  pg1 : ∀ i, i < 258 → c.M 2 1 i = 255
theorem torn_new (F : Nat → UInt8) : progE pw0 (newC 16 []) 2 0 = 0 ∧ progP pw0 (newC 16 []) 2 0 = pw0 ∧ TI F (progC pw0 (newC 16 []) 2 0 F) := by
  have hon : progOn pw0 (newC 16 []) 2 0 := ⟨rfl, rfl⟩
  have hc : progC pw0 (newC 16 []) 2 0 F = progD pw0 (newC 16 []) 2 0 F 258 := by
    unfold progC
    rw [if_pos hon]; rfl
  refine ⟨rfl, if_pos hon, ?_⟩
  rw [hc]
  refine ⟨rfl, rfl, rfl, rfl, rfl, rfl, rfl, progD_okay (ok_new 16 []) (by simp [newC]) (by simp [newC]) _ (by simp [pw0]) (by simp [pw0]), by simp [progD, newC], by simp [progD, newC], by simp [progD, newC], fun i hi => ?_, fun i hi => ?_⟩
  · show updP (newM 16) 2 0 (wrG (newM 16 2 0) F 258) 2 0 i = F i
    rw [updP_same]
    unfold wrG
    rw [if_pos hi]
    exact and_255 _
  · show updP (newM 16) 2 0 (wrG (newM 16 2 0) F 258) 2 1 i = 255
    rw [updP_other _ _ _ _ _ _ (by omega)]
    rfl
/-- A chip whose block 2 takes no page but x. -/
structure TO (x : Int) (c : Ch) : Prop where
  n : c.n = 16
  dead : c.dead = false
  out : c.out = false
  pw : c.pw = []
  bd : c.bd 2 = false
  nx : c.nx 2 = x
  k : ∀ P : Pw, -1 ≤ P.aft → P.aft ≤ 9223372036854775807 → Okay P c
theorem TO.may {x : Int} {c : Ch} (h : TO x c) (keep p : Int) (hp : 0 ≤ p) (hp8 : p < 8) : mayC ⟨false, -1, keep⟩ c 2 p = 0 := by
  unfold mayC mayI
  dsimp only
  rw [h.dead, h.out, h.n, if_neg (by decide), if_neg (by decide), if_neg (by decide), if_neg (by omega), if_neg (by omega)]
theorem TO.order {x : Int} {c : Ch} (h : TO x c) (keep p : Int) (hp : 0 ≤ p) (hp8 : p < 8) (hx : p ≠ x) (D : Nat → UInt8) : progE ⟨false, -1, keep⟩ c 2 p = 32 ∧ progP ⟨false, -1, keep⟩ c 2 p = ⟨false, -1, keep⟩ ∧ progC ⟨false, -1, keep⟩ c 2 p D = c := by
  have hm := h.may keep p hp hp8
  have hnx : c.nx (2 : Int).toNat = x := h.nx
  have hn : ¬ progOn ⟨false, -1, keep⟩ c 2 p := fun e => hx (by rw [← hnx]; exact e.2)
  refine ⟨?_, if_neg hn, if_neg hn⟩
  unfold progE
  rw [if_neg (by rw [hm]; simp), if_pos (by rw [hnx]; exact hx)]
theorem TO.okay {x : Int} {c : Ch} (h : TO x c) (keep p : Int) (hp : 0 ≤ p) (hp8 : p < 8) (hx : p = x) : progE ⟨false, -1, keep⟩ c 2 p = 0 := by
  have hm := h.may keep p hp hp8
  have hnx : c.nx (2 : Int).toNat = x := h.nx
  have hb : c.bd (2 : Int).toNat = false := h.bd
  unfold progE
  rw [if_neg (by rw [hm]; simp), if_neg (by rw [hnx, hx]; simp), h.pw, hb]
  rfl
section
variable {F : Nat → UInt8} {c : Ch}
theorem TI.may (h : TI F c) (keep p : Int) (hp : 0 ≤ p) (hp8 : p < 8) : mayC ⟨false, 0, keep⟩ c 2 p = 0 := by
  unfold mayC mayI
  dsimp only
  rw [h.dead, h.out, h.n, if_neg (by decide), if_neg (by decide), if_neg (by decide), if_neg (by omega), if_neg (by omega)]
theorem TI.okays (h : TI F c) (P : Pw) (h1 : -1 ≤ P.aft) (h2 : P.aft ≤ 9223372036854775807) : Okay P c := ⟨h1, h2, h.k.p1, h.k.p2, h.k.w1, h.k.w2, h.k.c1, h.k.c2⟩
theorem TI.era (h : TI F c) (keep : Int) : eraE ⟨false, 0, keep⟩ c 2 = 30 ∧ eraP ⟨false, 0, keep⟩ c 2 = ⟨true, -1, keep⟩ ∧ TO 8 (eraC ⟨false, 0, keep⟩ c 2) ∧ ((∀ i, i < 258 → (eraC ⟨false, 0, keep⟩ c 2).M 2 0 i = F i) ∨ ∀ i, i < 258 → (eraC ⟨false, 0, keep⟩ c 2).M 2 0 i = 255) := by
  have hm := h.may keep 0 (by omega) (by omega)
  have hX : eraX ⟨false, 0, keep⟩ c 2 = 8 := rfl
  have hN : eraN ⟨false, 0, keep⟩ c 2 = clampN keep 8 := rfl
  refine ⟨?_, ?_, ?_⟩
  · unfold eraE
    rw [if_neg (by rw [hm]; simp)]; rfl
  · unfold eraP
    rw [if_pos hm]; rfl
  · unfold eraC
    rw [if_pos hm, hX, hN]
    refine ⟨⟨h.n, h.dead, h.out, h.pw, h.bd, rfl, fun P a1 a2 => ⟨a1, a2, h.k.p1, h.k.p2, ?_, ?_, ?_, ?_⟩⟩, ?_⟩
    · show 0 ≤ c.wc + 1
      have := h.k.w1; omega
    · show c.wc + 1 < _
      have := h.s2; omega
    · show 0 ≤ c.cnt + 1
      have := h.k.c1; omega
    · show c.cnt + 1 < _
      have := h.s3; omega
    · show (∀ i, i < 258 → wiM c.M 2 (clampN keep 8) 2 0 i = F i) ∨ ∀ i, i < 258 → wiM c.M 2 (clampN keep 8) 2 0 i = 255
      unfold wiM
      by_cases e : 0 < clampN keep 8
      · exact .inr fun i _ => if_pos ⟨rfl, e⟩
      · exact .inl fun i hi => by rw [if_neg (fun hh => e hh.2)]; exact h.pg0 i hi
theorem TI.prog (h : TI F c) (keep : Int) : progE ⟨false, 0, keep⟩ c 2 1 = 30 ∧ progP ⟨false, 0, keep⟩ c 2 1 = ⟨true, -1, keep⟩ ∧ TO 2 (progC ⟨false, 0, keep⟩ c 2 1 F) ∧ (∀ i, i < 258 → (progC ⟨false, 0, keep⟩ c 2 1 F).M 2 0 i = F i) ∧ ∀ i, i < 258 → (progC ⟨false, 0, keep⟩ c 2 1 F).M 2 1 i = F i ∨ (progC ⟨false, 0, keep⟩ c 2 1 F).M 2 1 i = 255 := by
  have hm := h.may keep 1 (by omega) (by omega)
  have hnx : c.nx (2 : Int).toNat = 1 := h.nx
  have hon : progOn ⟨false, 0, keep⟩ c 2 1 := ⟨hm, hnx.symm⟩
  have hN : progN ⟨false, 0, keep⟩ c 2 = clampN keep 258 := rfl
  refine ⟨?_, ?_, ?_⟩
  · unfold progE
    rw [if_neg (by rw [hm]; simp), if_neg (by rw [hnx]; simp)]; rfl
  · unfold progP
    rw [if_pos hon]; rfl
  · unfold progC
    rw [if_pos hon, hN]
    refine ⟨⟨h.n, h.dead, h.out, h.pw, h.bd, ?_, fun P a1 a2 => ⟨a1, a2, ?_, ?_, h.k.w1, h.k.w2, ?_, ?_⟩⟩, fun i hi => ?_, fun i hi => ?_⟩
    · show upd c.nx 2 (c.nx 2 + 1) 2 = 2
      unfold upd
      rw [if_pos rfl, h.nx]; rfl
    · show 0 ≤ c.pc + 1
      have := h.k.p1; omega
    · show c.pc + 1 < _
      have := h.s1; omega
    · show 0 ≤ c.cnt + 1
      have := h.k.c1; omega
    · show c.cnt + 1 < _
      have := h.s3; omega
    · show updP c.M 2 1 (wrG (c.M 2 1) F (clampN keep 258)) 2 0 i = F i
      rw [updP_other _ _ _ _ _ _ (by omega)]
      exact h.pg0 i hi
    · show updP c.M 2 1 (wrG (c.M 2 1) F (clampN keep 258)) 2 1 i = F i ∨ updP c.M 2 1 (wrG (c.M 2 1) F (clampN keep 258)) 2 1 i = 255
      rw [updP_same]
      unfold wrG
      rw [h.pg1 i hi]
      by_cases e : i < clampN keep 258
      · rw [if_pos e]
        exact .inl (and_255 _)
      · rw [if_neg e]
        exact .inr rfl
end
end Go.Proofs.YtofjabejkcicjaaK

import Derived.Test.YtofjabejkcicjaaKWip
namespace Go.Proofs.YtofjabejkcicjaaK
open Go.RowKit
set_option linter.unusedSimpArgs false
set_option linter.unusedVariables false
/-! A power and a chip, plain, and what Program and Erase make of them. -/
structure Pw where
  off : Bool
  aft : Int
  keep : Int
structure Ch where
  n : Nat
  M : Nat → Nat → Nat → UInt8
  nx : Nat → Int
  bd : Nat → Bool
  dead : Bool
  out : Bool
  pw : List Int
  pc : Int
  ww : List Int
  wc : Int
  cnt : Int
def Pw.act (P : Pw) : Pw := ⟨pwOff P.off P.aft, pwAft P.aft, P.keep⟩
def PwW (w : World) (pb : Nat) (P : Pw) : Prop := Pwr w pb P.off P.aft P.keep
def ChW (w : World) (S : List Nat) (pb cb rb : Nat) (c : Ch) : Prop :=
  ∃ v1 v2, Chp w cb pb (.slice (some ⟨rb, 0, none⟩) c.n c.n) c.dead c.out v1 c.pc v2 c.wc c.cnt ∧ Ints w v1 c.pw S ∧ Ints w v2 c.ww S ∧ Row w rb (2066 * c.n) (blkV c.M c.nx c.bd)
structure Okay (P : Pw) (c : Ch) : Prop where
  a1 : -1 ≤ P.aft
  a2 : P.aft ≤ 9223372036854775807
  p1 : 0 ≤ c.pc
  p2 : c.pc < 4611686018427387904
  w1 : 0 ≤ c.wc
  w2 : c.wc < 4611686018427387904
  c1 : 0 ≤ c.cnt
  c2 : c.cnt < 4611686018427387904
structure Apart (S : List Nat) (pb cb rb : Nat) : Prop where
  pc : pb ≠ cb
  pr : pb ≠ rb
  cr : cb ≠ rb
  sp : pb ∈ S
  sc : cb ∈ S
  sr : rb ∈ S
def mayC (P : Pw) (c : Ch) (b p : Int) : Int := mayI P.off (!c.dead && !c.out) c.n b p
theorem mayC_zero {P : Pw} {c : Ch} {b p : Int} (h : mayC P c b p = 0) : P.off = false ∧ c.dead = false ∧ c.out = false ∧ 0 ≤ b ∧ b < c.n ∧ 0 ≤ p ∧ p < 8 := by
  unfold mayC mayI at h
  rcases h1 : P.off with _ | _
  · rw [h1, if_neg (by decide)] at h
    rcases h2 : (!c.dead && !c.out) with _ | _
    · rw [h2, if_pos rfl] at h; omega
    · rw [h2, if_neg (by decide)] at h
      rcases h3 : (decide (0 ≤ b) && decide (b < c.n)) with _ | _
      · rw [h3, if_pos rfl] at h; omega
      · rw [h3, if_neg (by decide)] at h
        simp at h2 h3
        by_cases h4 : p < 0
        · rw [if_pos h4] at h; omega
        · rw [if_neg h4] at h
          by_cases h5 : 8 ≤ p
          · rw [if_pos h5] at h; omega
          · exact ⟨rfl, h2.1, h2.2, h3.1, h3.2, by omega, by omega⟩
  · rw [h1, if_pos rfl] at h; omega
section
variable {S S' : List Nat} {w w' : World} {pb cb rb : Nat} {P : Pw} {c : Ch}
theorem PwW.chg (h : PwW w pb P) (hc : Chg S w w') (hn : pb ∉ S) : PwW w' pb P := hc.at h hn
theorem ChW.chg (h : ChW w S pb cb rb c) (hc : Chg S' w w') (hs : ∀ k ∈ S', k ∈ S) (h1 : cb ∉ S') (h2 : rb ∉ S') : ChW w' S pb cb rb c := by
  obtain ⟨v1, v2, a, b, d, e⟩ := h
  exact ⟨v1, v2, hc.at a h1, b.chg hc hs, d.chg hc hs, e.chg hc h2⟩
theorem PwW.below (h : PwW w pb P) (hc : Below w.heap.size w w') : PwW w' pb P := h.chg (S := []) (Chg.ofBelow hc) (by simp)
theorem ChW.below (h : ChW w S pb cb rb c) (hc : Below w.heap.size w w') : ChW w' S pb cb rb c := h.chg (S' := []) (Chg.ofBelow hc) (by simp) (by simp) (by simp)
theorem PwW.lt (h : PwW w pb P) : pb < w.heap.size := (Array.getElem?_eq_some_iff.1 h).1
theorem ChW.ltc (h : ChW w S pb cb rb c) : cb < w.heap.size := by
  obtain ⟨v1, v2, a, _⟩ := h
  exact (Array.getElem?_eq_some_iff.1 a).1
theorem ChW.ltr (h : ChW w S pb cb rb c) : rb < w.heap.size := by
  obtain ⟨v1, v2, _, _, _, e⟩ := h
  exact e.lt
end
/-- What Program answers, and what it leaves. -/
def progE (P : Pw) (c : Ch) (b p : Int) : Int :=
  if mayC P c b p ≠ 0 then mayC P c b p else if p ≠ c.nx b.toNat then 32 else bif pwEnds P.aft then 30 else bif (c.pw.contains c.pc || c.bd b.toNat) then 33 else 0
def progOn (P : Pw) (c : Ch) (b p : Int) : Prop := mayC P c b p = 0 ∧ p = c.nx b.toNat
instance (P : Pw) (c : Ch) (b p : Int) : Decidable (progOn P c b p) := by unfold progOn; exact inferInstance
def progP (P : Pw) (c : Ch) (b p : Int) : Pw := if progOn P c b p then P.act else P
def progN (P : Pw) (c : Ch) (b : Int) : Nat := bif pwEnds P.aft then clampN P.keep 258 else bif (c.pw.contains c.pc || c.bd b.toNat) then 129 else 258
def progD (P : Pw) (c : Ch) (b : Nat) (p : Nat) (D : Nat → UInt8) (k : Nat) : Ch :=
  { c with M := updP c.M b p (wrG (c.M b p) D k), nx := upd c.nx b (c.nx b + 1), pc := c.pc + 1, cnt := c.cnt + 1 }
def progC (P : Pw) (c : Ch) (b p : Int) (D : Nat → UInt8) : Ch := if progOn P c b p then progD P c b.toNat p.toNat D (progN P c b) else c
def eraE (P : Pw) (c : Ch) (b : Int) : Int :=
  if mayC P c b 0 ≠ 0 then mayC P c b 0 else bif pwEnds P.aft then 30 else bif (c.ww.contains c.wc || c.bd b.toNat) then 33 else 0
def eraP (P : Pw) (c : Ch) (b : Int) : Pw := if mayC P c b 0 = 0 then P.act else P
def eraN (P : Pw) (c : Ch) (b : Int) : Nat := bif pwEnds P.aft then clampN P.keep 8 else bif (c.ww.contains c.wc || c.bd b.toNat) then 0 else 8
def eraX (P : Pw) (c : Ch) (b : Int) : Int := bif pwEnds P.aft then 8 else bif (c.ww.contains c.wc || c.bd b.toNat) then 8 else 0
def eraC (P : Pw) (c : Ch) (b : Int) : Ch :=
  if mayC P c b 0 = 0 then { c with M := wiM c.M b.toNat (eraN P c b), nx := upd c.nx b.toNat (eraX P c b), wc := c.wc + 1, cnt := c.cnt + 1 } else c
end Go.Proofs.YtofjabejkcicjaaK

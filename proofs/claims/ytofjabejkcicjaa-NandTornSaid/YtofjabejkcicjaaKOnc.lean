import Derived.Test.YtofjabejkcicjaaKCut
import Derived.Test.YtofjabejkcicjaaKRea
import Derived.Test.YtofjabejkcicjaaKArr
namespace Go.Proofs.YtofjabejkcicjaaK
open Go.RowKit
set_option linter.unusedSimpArgs false
set_option linter.unusedVariables false
/-! Pages are compared; NandOnce's plain law. -/
theorem pgL_map (g : Nat → UInt8) : pgL g = ((List.range 258).map g).map encB := by
  unfold pgL
  rw [List.map_map]
  rfl
theorem pg_eql (g g' : Nat → UInt8) (w : World) : (Op.equalIn 10000 34 (.agg (pgL g).toArray) (.agg (pgL g').toArray)).run Try.prog w = .ok (decide ((List.range 258).map g = (List.range 258).map g')) w := by
  rw [pgL_map, pgL_map]
  exact arr_eql (P := Try.prog) Try.underlying34 Try.underlying5 (by kernel_rfl) (by kernel_rfl) (by kernel_rfl) _ _ (by simp) (by simp) w
theorem pg_self (g : Nat → UInt8) (w : World) : (Op.equalIn 10000 34 (.agg (pgL g).toArray) (.agg (pgL g).toArray)).run Try.prog w = .ok true w := by
  rw [pg_eql, decide_eq_true rfl]
/-- The page that was written is there, and its place is taken. -/
structure OI (F : Nat → UInt8) (m : Int) (P : Pw) (c : Ch) : Prop where
  n : c.n = 20
  dead : c.dead = false
  out : c.out = false
  pw : c.pw = []
  ww : c.ww = []
  a1 : -1 ≤ P.aft
  a2 : P.aft ≤ 9223372036854775807
  p1 : 0 ≤ c.pc
  p2 : c.pc ≤ m
  w1 : 0 ≤ c.wc
  w2 : c.wc ≤ m
  c1 : 0 ≤ c.cnt
  c2 : c.cnt ≤ m
  pg : ∀ i, i < 258 → c.M 5 0 i = F i
  nx : 1 ≤ c.nx 5
  bd : c.bd 5 = false
section
variable {F : Nat → UInt8} {m : Int} {P : Pw} {c : Ch}
theorem OI.okay (h : OI F m P c) (hm : m < 1000000) : Okay P c :=
  ⟨h.a1, h.a2, h.p1, by have := h.p2; omega, h.w1, by have := h.w2; omega, h.c1, by have := h.c2; omega⟩
theorem OI.up (h : OI F m P c) : OI F (m + 1) P c :=
  { h with p2 := by have := h.p2; omega, w2 := by have := h.w2; omega, c2 := by have := h.c2; omega }
theorem act_aft (P : Pw) (a1 : -1 ≤ P.aft) (a2 : P.aft ≤ 9223372036854775807) : -1 ≤ P.act.aft ∧ P.act.aft ≤ 9223372036854775807 := by
  unfold Pw.act pwAft
  dsimp only
  by_cases h : P.aft < 0
  · rw [if_pos h]; omega
  · rw [if_neg h]; omega
theorem OI.prog (h : OI F m P c) (b p : Int) (D : Nat → UInt8) : OI F (m + 1) (progP P c b p) (progC P c b p D) := by
  by_cases hon : progOn P c b p
  · obtain ⟨hm, hx⟩ := hon
    obtain ⟨_, _, _, hb0, hb1, hp0, hp8⟩ := mayC_zero hm
    unfold progP progC
    rw [if_pos ⟨hm, hx⟩, if_pos ⟨hm, hx⟩]
    have ha := act_aft P h.a1 h.a2
    refine { n := h.n, dead := h.dead, out := h.out, pw := h.pw, ww := h.ww, a1 := ha.1, a2 := ha.2, p1 := ?_, p2 := ?_, w1 := h.w1, w2 := ?_, c1 := ?_, c2 := ?_, pg := ?_, nx := ?_, bd := h.bd }
    · show 0 ≤ c.pc + 1
      have := h.p1; omega
    · show c.pc + 1 ≤ m + 1
      have := h.p2; omega
    · have := h.w2; show c.wc ≤ _; omega
    · show 0 ≤ c.cnt + 1
      have := h.c1; omega
    · show c.cnt + 1 ≤ m + 1
      have := h.c2; omega
    · intro i hi
      show updP c.M b.toNat p.toNat _ 5 0 i = F i
      rw [updP_other]
      · exact h.pg i hi
      · rintro ⟨e1, e2⟩
        have h5 := h.nx
        rw [← e1] at hx
        omega
    · show 1 ≤ upd c.nx b.toNat (c.nx b.toNat + 1) 5
      have h5 := h.nx
      unfold upd
      by_cases e : 5 = b.toNat
      · rw [if_pos e, ← e]; omega
      · rw [if_neg e]; exact h5
  · unfold progP progC
    rw [if_neg hon, if_neg hon]
    exact h.up
theorem OI.era (h : OI F m P c) (b : Int) (hb5 : b ≠ 5) : OI F (m + 1) (eraP P c b) (eraC P c b) := by
  by_cases hm : mayC P c b 0 = 0
  · obtain ⟨_, _, _, hb0, hb1, hp0, hp8⟩ := mayC_zero hm
    unfold eraP eraC
    rw [if_pos hm, if_pos hm]
    have ha := act_aft P h.a1 h.a2
    have hne : ¬ 5 = b.toNat := by omega
    refine { n := h.n, dead := h.dead, out := h.out, pw := h.pw, ww := h.ww, a1 := ha.1, a2 := ha.2, p1 := h.p1, p2 := ?_, w1 := ?_, w2 := ?_, c1 := ?_, c2 := ?_, pg := ?_, nx := ?_, bd := h.bd }
    · have := h.p2; show c.pc ≤ _; omega
    · show 0 ≤ c.wc + 1
      have := h.w1; omega
    · show c.wc + 1 ≤ m + 1
      have := h.w2; omega
    · show 0 ≤ c.cnt + 1
      have := h.c1; omega
    · show c.cnt + 1 ≤ m + 1
      have := h.c2; omega
    · intro i hi
      show wiM c.M b.toNat _ 5 0 i = F i
      unfold wiM
      rw [if_neg (fun e => hne e.1)]
      exact h.pg i hi
    · show 1 ≤ upd c.nx b.toNat _ 5
      unfold upd
      rw [if_neg hne]
      exact h.nx
  · unfold eraP eraC
    rw [if_neg hm, if_neg hm]
    exact h.up
theorem OI.power (h : OI F m P c) (P' : Pw) (a1 : -1 ≤ P'.aft) (a2 : P'.aft ≤ 9223372036854775807) : OI F (m + 1) P' c :=
  { h.up with a1 := a1, a2 := a2 }
/-- At the end: with power, the page is read; its block is erased; it is blank, and may be written. -/
theorem OI.may (h : OI F m P c) (ho : P.off = false) : mayC P c 5 0 = 0 := by
  unfold mayC mayI
  rw [ho, h.dead, h.out, h.n]
  rfl
theorem OI.read (h : OI F m P c) (ho : P.off = false) : pgL (readD P c 5 0) = pgL F := by
  unfold readD
  rw [if_pos (h.may ho)]
  exact pgL_congr h.pg
theorem OI.eraE (h : OI F m P c) (ho : P.off = false) (ha : P.aft = -1) : eraE P c 5 = 0 ∧ eraP P c 5 = ⟨false, -1, P.keep⟩ ∧ (eraC P c 5).n = 20 ∧ (eraC P c 5).dead = false ∧ (eraC P c 5).out = false ∧ (eraC P c 5).pw = [] ∧ (eraC P c 5).nx 5 = 0 ∧ (eraC P c 5).bd 5 = false ∧ (eraC P c 5).pc = c.pc ∧ (eraC P c 5).wc = c.wc + 1 ∧ (eraC P c 5).cnt = c.cnt + 1 ∧ ∀ i, (eraC P c 5).M 5 0 i = 255 := by
  have hm := h.may ho
  have he : pwEnds P.aft = false := by rw [ha]; rfl
  have hw : (c.ww.contains c.wc || c.bd 5) = false := by rw [h.ww, h.bd]; rfl
  have hw' : (c.ww.contains c.wc || c.bd (5 : Int).toNat) = false := hw
  have hN : eraN P c 5 = 8 := by unfold eraN; rw [he, hw']; rfl
  have hX : eraX P c 5 = 0 := by unfold eraX; rw [he, hw']; rfl
  refine ⟨?_, ?_, ?_⟩
  · unfold Go.Proofs.YtofjabejkcicjaaK.eraE
    rw [if_neg (by rw [hm]; simp), he, hw']; rfl
  · unfold eraP
    rw [if_pos hm]
    unfold Pw.act pwOff pwAft
    rw [ha, ho]; rfl
  · unfold eraC
    rw [if_pos hm, hN, hX]
    refine ⟨h.n, h.dead, h.out, h.pw, rfl, h.bd, rfl, rfl, rfl, fun i => ?_⟩
    show wiM c.M 5 8 5 0 i = 255
    unfold wiM
    rw [if_pos ⟨rfl, by omega⟩]
end
theorem prog_zero {P : Pw} {c : Ch} (h0 : P.off = false) (h1 : P.aft = -1) (hn : c.n = 20) (hd : c.dead = false) (ho : c.out = false) (hp : c.pw = []) (hx : c.nx 5 = 0) (hb : c.bd 5 = false) : progE P c 5 0 = 0 := by
  have hm : mayC P c 5 0 = 0 := by
    unfold mayC mayI
    rw [h0, hd, ho, hn]
    rfl
  have hx' : c.nx (5 : Int).toNat = 0 := hx
  have hb' : c.bd (5 : Int).toNat = false := hb
  unfold progE
  rw [if_neg (by rw [hm]; simp), if_neg (by rw [hx']; simp), h1, hp, hb']
  rfl
theorem once_new (F : Nat → UInt8) : progE pw0 (newC 20 []) 5 0 = 0 ∧ progP pw0 (newC 20 []) 5 0 = pw0 ∧ OI F 1 pw0 (progC pw0 (newC 20 []) 5 0 F) := by
  have hon : progOn pw0 (newC 20 []) 5 0 := ⟨rfl, rfl⟩
  refine ⟨rfl, if_pos hon, ?_⟩
  have hc : progC pw0 (newC 20 []) 5 0 F = progD pw0 (newC 20 []) 5 0 F 258 := by
    unfold progC
    rw [if_pos hon]; rfl
  rw [hc]
  refine { n := rfl, dead := rfl, out := rfl, pw := rfl, ww := rfl, a1 := by simp [pw0], a2 := by simp [pw0], p1 := by simp [progD, newC], p2 := by simp [progD, newC], w1 := by simp [progD, newC], w2 := by simp [progD, newC], c1 := by simp [progD, newC], c2 := by simp [progD, newC], pg := fun i hi => ?_, nx := by simp [progD, newC, upd], bd := rfl }
  show updP (newM 20) 5 0 (wrG (newM 20 5 0) F 258) 5 0 i = F i
  rw [updP_same]
  unfold wrG
  rw [if_pos hi]
  show (255 : UInt8) &&& F i = F i
  have : ∀ x : UInt8, (255 : UInt8) &&& x = x := by
    intro x
    apply UInt8.toNat_inj.1
    rw [UInt8.toNat_and]
    have hx := x.toNat_lt
    rw [Nat.and_comm, show (255 : UInt8).toNat = 2 ^ 8 - 1 from rfl, Nat.and_two_pow_sub_one_eq_mod]
    omega
  exact this _
end Go.Proofs.YtofjabejkcicjaaK

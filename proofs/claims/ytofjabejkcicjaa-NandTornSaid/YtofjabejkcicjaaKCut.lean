import Derived.Test.YtofjabejkcicjaaKOps
import Derived.Deep.QuietTactic
import Derived.BigQuiet
namespace Go.Proofs.YtofjabejkcicjaaK
open Go.RowKit
set_option linter.unusedSimpArgs false
set_option linter.unusedVariables false
/-! One chip: the calls again, with what they leave as it was; NandCuts' plain law. -/
section
variable {w0 w w' : World} {pb cb rb : Nat} {P P' : Pw} {c c' : Ch}
theorem one_progG (b p : Int) (D : Nat → UInt8) (h : One w0 w pb cb rb P c) (ho : Okay P c) :
    Calls Try.prog 13 #[.pointer (some ⟨cb, 0, none⟩), .int .i64 b, .int .i64 p, .agg (pgL D).toArray] w fun e w' => e = .returned (.int .i64 (progE P c b p)) ∧ One w0 w' pb cb rb (progP P c b p) (progC P c b p D) ∧ Chg [pb, cb, rb] w w' := by
  refine (prog_any _ pb cb rb P c b p D w h.p h.c h.a ho).mono ?_
  rintro e w' ⟨rfl, h1, h2, h3⟩
  exact ⟨rfl, h.go h1 h2 h3, h3⟩
theorem one_eraG (b : Int) (h : One w0 w pb cb rb P c) (ho : Okay P c) :
    Calls Try.prog 19 #[.pointer (some ⟨cb, 0, none⟩), .int .i64 b] w fun e w' => e = .returned (.int .i64 (eraE P c b)) ∧ One w0 w' pb cb rb (eraP P c b) (eraC P c b) ∧ Chg [pb, cb, rb] w w' := by
  refine (era_any _ pb cb rb P c b w h.p h.c h.a ho).mono ?_
  rintro e w' ⟨rfl, h1, h2, h3⟩
  exact ⟨rfl, h.go h1 h2 h3, h3⟩
theorem One.lt (h : One w0 w pb cb rb P c) : ∀ k ∈ [pb, cb, rb], k < w.heap.size := by
  have h1 := PwW.lt h.p
  have h2 := ChW.ltc h.c
  have h3 := ChW.ltr h.c
  intro k hk
  simp at hk
  omega
end
theorem and_1 (x : Int) : bits .and .i64 x 1 = x % 2 := by
  show IntKind.i64.wrap (((BitVec.ofInt 64 x) &&& (BitVec.ofInt 64 1)).toNat : Int) = _
  rw [BitVec.toNat_and, BitVec.toNat_ofInt, BitVec.toNat_ofInt]
  have h1 : ((1 : Int) % ((2 ^ 64 : Nat) : Int)).toNat = 2 ^ 1 - 1 := by decide
  rw [h1, Nat.and_two_pow_sub_one_eq_mod, IntKind.wrap_i64]
  omega
theorem and_31 (x : Int) : bits .and .i64 x 31 = x % 32 := by
  show IntKind.i64.wrap (((BitVec.ofInt 64 x) &&& (BitVec.ofInt 64 31)).toNat : Int) = _
  rw [BitVec.toNat_and, BitVec.toNat_ofInt, BitVec.toNat_ofInt]
  have h1 : ((31 : Int) % ((2 ^ 64 : Nat) : Int)).toNat = 2 ^ 5 - 1 := by decide
  rw [h1, Nat.and_two_pow_sub_one_eq_mod, IntKind.wrap_i64]
  omega
theorem mayC_off {P : Pw} {c : Ch} {b p : Int} (h : P.off = true) : mayC P c b p = 30 := by
  unfold mayC mayI
  rw [h, if_pos rfl]
/-- Ahead of the cut as many acts are left as it told; behind it there is no power. -/
structure CI (n : Int) (P : Pw) (c : Ch) : Prop where
  h : (P.off = false ∧ P.aft = n - c.cnt ∧ c.cnt ≤ n) ∨ (P.off = true ∧ c.cnt = n + 1 ∧ P.aft = -1)
  c0 : 0 ≤ c.cnt
  p0 : 0 ≤ c.pc
  p1 : c.pc ≤ c.cnt
  w0 : 0 ≤ c.wc
  w1 : c.wc ≤ c.cnt
theorem CI.okay {n : Int} {P : Pw} {c : Ch} (h : CI n P c) (h0 : 0 ≤ n) (h1 : n < 1000) : Okay P c := by
  obtain ⟨h, a1, a2, a3, a4, a5⟩ := h
  rcases h with ⟨_, h2, h3⟩ | ⟨_, h2, h3⟩ <;> constructor <;> omega
theorem ci_act {n : Int} {P : Pw} {c c' : Ch} (h : CI n P c) (ho : P.off = false) (h0 : 0 ≤ n) (hc : c'.cnt = c.cnt + 1) (hp : (c'.pc = c.pc + 1 ∧ c'.wc = c.wc) ∨ (c'.pc = c.pc ∧ c'.wc = c.wc + 1)) : CI n P.act c' := by
  obtain ⟨h, a1, a2, a3, a4, a5⟩ := h
  rcases h with ⟨_, h2, h3⟩ | ⟨h1, _⟩
  · refine ⟨?_, by omega, by omega, by omega, by omega, by omega⟩
    have hn : ¬ P.aft < 0 := by omega
    unfold Pw.act pwOff pwAft
    dsimp only
    rw [if_neg hn, if_neg hn]
    by_cases e : P.aft = 0
    · exact .inr ⟨by rw [e]; rfl, by omega, by omega⟩
    · exact .inl ⟨beq_eq_false_iff_ne.2 e, by omega, by omega⟩
  · rw [ho] at h1; cases h1
theorem ci_prog {n : Int} {P : Pw} {c : Ch} (h : CI n P c) (h0 : 0 ≤ n) (b p : Int) (D : Nat → UInt8) : CI n (progP P c b p) (progC P c b p D) ∧ (P.off = true → progE P c b p = 30 ∧ progC P c b p D = c ∧ progP P c b p = P) := by
  by_cases hon : progOn P c b p
  · have ho : P.off = false := (mayC_zero hon.1).1
    unfold progP progC
    rw [if_pos hon, if_pos hon]
    exact ⟨ci_act h ho h0 rfl (.inl ⟨rfl, rfl⟩), fun e => by rw [ho] at e; cases e⟩
  · unfold progP progC
    rw [if_neg hon, if_neg hon]
    refine ⟨h, fun e => ⟨?_, rfl, rfl⟩⟩
    unfold progE
    rw [mayC_off e, if_pos (by decide)]
theorem ci_era {n : Int} {P : Pw} {c : Ch} (h : CI n P c) (h0 : 0 ≤ n) (b : Int) : CI n (eraP P c b) (eraC P c b) ∧ (P.off = true → eraE P c b = 30 ∧ eraC P c b = c ∧ eraP P c b = P) := by
  by_cases hon : mayC P c b 0 = 0
  · have ho : P.off = false := (mayC_zero hon).1
    unfold eraP eraC
    rw [if_pos hon, if_pos hon]
    exact ⟨ci_act h ho h0 rfl (.inr ⟨rfl, rfl⟩), fun e => by rw [ho] at e; cases e⟩
  · unfold eraP eraC
    rw [if_neg hon, if_neg hon]
    refine ⟨h, fun e => ⟨?_, rfl, rfl⟩⟩
    unfold eraE
    rw [mayC_off e, if_pos (by decide)]
theorem CI.test {n : Int} {P : Pw} {c : Ch} (h : CI n P c) : c.cnt ≤ n + 1 ∧ (P.off = true → c.cnt = n + 1) ∧ (P.off = false → c.cnt ≤ n) := by
  obtain ⟨h, a1, a2, a3, a4, a5⟩ := h
  rcases h with ⟨h1, h2, h3⟩ | ⟨h1, h2, h3⟩
  · exact ⟨by omega, fun e => by (rw [h1] at e; cases e), fun _ => h3⟩
  · exact ⟨by omega, fun _ => h2, fun e => by (rw [h1] at e; cases e)⟩
end Go.Proofs.YtofjabejkcicjaaK

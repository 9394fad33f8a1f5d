import Derived.Test.YtofjabejkcicjaaKOne
namespace Go.Proofs.YtofjabejkcicjaaK
open Go.RowKit
set_option linter.unusedSimpArgs false
set_option linter.unusedVariables false
/-! Two chips on one power that lasts. -/
structure Two (w0 w : World) (S : List Nat) (pb ca ra cb rb : Nat) (P : Pw) (c d : Ch) : Prop where
  p : PwW w pb P
  c : ChW w S pb ca ra c
  d : ChW w S pb cb rb d
  a : Apart S pb ca ra
  b : Apart S pb cb rb
  n1 : ca ≠ cb
  n2 : ca ≠ rb
  n3 : ra ≠ cb
  n4 : ra ≠ rb
  s : ∀ k ∈ S, w0.heap.size ≤ k
  bl : Below w0.heap.size w0 w
section
variable {w0 w w' : World} {S S' : List Nat} {pb ca ra cb rb : Nat} {P P' : Pw} {c c' d : Ch}
theorem Two.below (h : Two w0 w S pb ca ra cb rb P c d) (hb : Below w.heap.size w w') : Two w0 w' S pb ca ra cb rb P c d :=
  ⟨h.p.below hb, h.c.below hb, h.d.below hb, h.a, h.b, h.n1, h.n2, h.n3, h.n4, h.s, h.bl.trans (hb.mono h.bl.size)⟩
theorem Two.swap (h : Two w0 w S pb ca ra cb rb P c d) : Two w0 w S pb cb rb ca ra P d c :=
  ⟨h.p, h.d, h.c, h.b, h.a, Ne.symm h.n1, Ne.symm h.n3, Ne.symm h.n2, Ne.symm h.n4, h.s, h.bl⟩
theorem Two.go (h : Two w0 w S pb ca ra cb rb P c d) (hp : PwW w' pb P') (hc : ChW w' S pb ca ra c') (g : Chg [pb, ca, ra] w w') : Two w0 w' S pb ca ra cb rb P' c' d :=
  ⟨hp, hc, h.d.chg g (by simp; exact ⟨h.a.sp, h.a.sc, h.a.sr⟩) (by simp; exact ⟨Ne.symm h.b.pc, Ne.symm h.n1, Ne.symm h.n3⟩) (by simp; exact ⟨Ne.symm h.b.pr, Ne.symm h.n2, Ne.symm h.n4⟩), h.a, h.b, h.n1, h.n2, h.n3, h.n4, h.s,
    h.bl.trans (g.below h.bl.size (by simp; exact ⟨h.s _ h.a.sp, h.s _ h.a.sc, h.s _ h.a.sr⟩))⟩
theorem Two.grow (h : Two w0 w S pb ca ra cb rb P c d) (g : Chg [pb, ca, ra] w w') : Chg S w w' := g.mono (by simp; exact ⟨h.a.sp, h.a.sc, h.a.sr⟩)
/-- Another block of one's own, that is none of the chips', has turned. -/
theorem Two.other (h : Two w0 w S pb ca ra cb rb P c d) {m : Nat} (g : Chg [m] w w') (hm : m ∈ S) (e0 : pb ≠ m) (e1 : ca ≠ m) (e2 : ra ≠ m) (e3 : cb ≠ m) (e4 : rb ≠ m) : Two w0 w' S pb ca ra cb rb P c d :=
  ⟨h.p.chg g (by simpa using e0), h.c.chg g (by simpa using hm) (by simpa using e1) (by simpa using e2), h.d.chg g (by simpa using hm) (by simpa using e3) (by simpa using e4), h.a, h.b, h.n1, h.n2, h.n3, h.n4, h.s, h.bl.trans (g.below h.bl.size (by simpa using h.s m hm))⟩
theorem two_new {w2 w3 w4 : World} {m : Nat} {c d : Ch} (hb : Below w0.heap.size w0 w2) (h0 : w0.heap.size ≤ pb) (h1 : pb < w2.heap.size) (hp : PwW w2 pb P) (h3 : Below w2.heap.size w2 w3) (hc3 : ∀ S, ChW w3 S pb (w2.heap.size + 1) w2.heap.size c)
    (h4 : Below w3.heap.size w3 w4) (hc4 : ∀ S, ChW w4 S pb (w3.heap.size + 1) w3.heap.size d) (hm : w0.heap.size ≤ m) :
    Two w0 w4 [pb, w2.heap.size + 1, w2.heap.size, w3.heap.size + 1, w3.heap.size, m] pb (w2.heap.size + 1) w2.heap.size (w3.heap.size + 1) w3.heap.size P c d := by
  have hs := (hc3 []).ltc
  have hb0 := hb.size
  have hb3 := h3.size
  refine ⟨(hp.below h3).below h4, (hc3 _).below h4, hc4 _, ⟨by omega, by omega, by omega, by simp, by simp, by simp⟩, ⟨by omega, by omega, by omega, by simp, by simp, by simp⟩, by omega, by omega, by omega, by omega, ?_, hb.trans ((h3.mono hb.size).trans (h4.mono (by omega)))⟩
  intro k hk
  simp at hk
  omega
theorem two_fail {v : Value} {L : List Int} (h : Two w0 w S pb ca ra cb rb P c d) (hL : Ints w v L S') (hl : L.length ≤ 1000) (hS : ∀ k ∈ S, k < w.heap.size) (pg : Bool) :
    Calls Try.prog 12 #[.pointer (some ⟨ca, 0, none⟩), .bool pg, v] w fun e w' => (∃ u, e = .returned u) ∧ Two w0 w' S pb ca ra cb rb P (failC pg L c) d ∧ Chg [ca] w w' := by
  refine (fail_any S S' pb ca ra c pg v L w h.c h.a.cr h.a.sc hL hl hS).mono ?_
  rintro e w' ⟨hu, h1, h3⟩
  exact ⟨hu, h.go (h.p.chg h3 (by simpa using h.a.pc)) h1 (h3.mono (by simp)), h3⟩
theorem two_prog (b p : Int) (D : Nat → UInt8) (h : Two w0 w S pb ca ra cb rb P c d) (ho : Okay P c) :
    Calls Try.prog 13 #[.pointer (some ⟨ca, 0, none⟩), .int .i64 b, .int .i64 p, .agg (pgL D).toArray] w fun e w' => e = .returned (.int .i64 (progE P c b p)) ∧ Two w0 w' S pb ca ra cb rb (progP P c b p) (progC P c b p D) d ∧ Chg [pb, ca, ra] w w' := by
  refine (prog_any _ pb ca ra P c b p D w h.p h.c h.a ho).mono ?_
  rintro e w' ⟨rfl, h1, h2, h3⟩
  exact ⟨rfl, h.go h1 h2 h3, h3⟩
end
/-! Pages one behind the other, none of which ends the power. -/
def nxI (i b : Nat) : Int := ((min (i - 8 * b) 8 : Nat) : Int)
structure FC (L : List Int) (i : Nat) (c : Ch) : Prop where
  n : c.n = 16
  dead : c.dead = false
  out : c.out = false
  pw : c.pw = L
  pc : c.pc = i
  wc : c.wc = 0
  cnt : c.cnt = i
  nx : ∀ b, b < 16 → c.nx b = nxI i b
  bd : ∀ b, b < 16 → c.bd b = false
theorem fc_new : FC [] 0 (newC 16 []) := by
  refine ⟨rfl, rfl, rfl, rfl, rfl, rfl, rfl, fun b _ => ?_, fun b _ => ?_⟩
  · show (0 : Int) = nxI 0 b
    unfold nxI; simp
  · show (decide (b < 16) && ([] : List Int).contains (b : Int)) = false
    simp
theorem fc_fail {c : Ch} (h : FC [] 0 c) (L : List Int) : FC L 0 (failC true L c) := ⟨h.n, h.dead, h.out, rfl, rfl, h.wc, h.cnt, h.nx, h.bd⟩
theorem FC.okay {L : List Int} {i : Nat} {c : Ch} (h : FC L i c) (hi : i < 1000) : Okay pw0 c := by
  refine ⟨by simp [pw0], by simp [pw0], ?_, ?_, ?_, ?_, ?_, ?_⟩
  · rw [h.pc]; omega
  · rw [h.pc]; omega
  · rw [h.wc]; omega
  · rw [h.wc]; omega
  · rw [h.cnt]; omega
  · rw [h.cnt]; omega
theorem FC.step {L : List Int} {i : Nat} {c : Ch} (h : FC L i c) (hi : i < 127) (D : Nat → UInt8) :
    progE pw0 c ((i / 8 : Nat) : Int) ((i % 8 : Nat) : Int) = (bif L.contains (i : Int) then 33 else 0) ∧ progP pw0 c ((i / 8 : Nat) : Int) ((i % 8 : Nat) : Int) = pw0 ∧ FC L (i + 1) (progC pw0 c ((i / 8 : Nat) : Int) ((i % 8 : Nat) : Int) D) := by
  have hb : i / 8 < 16 := by omega
  have hm : mayC pw0 c ((i / 8 : Nat) : Int) ((i % 8 : Nat) : Int) = 0 := by
    unfold mayC mayI
    rw [h.dead, h.out, h.n, if_neg (by decide), if_neg (by decide), if_neg, if_neg (by omega), if_neg (by omega)]
    simp
    omega
  have hn : ((i % 8 : Nat) : Int) = c.nx (i / 8) := by
    rw [h.nx _ hb]
    unfold nxI
    omega
  have hon : progOn pw0 c ((i / 8 : Nat) : Int) ((i % 8 : Nat) : Int) := ⟨hm, by rw [Int.toNat_natCast]; exact hn⟩
  refine ⟨?_, ?_, ?_⟩
  · unfold progE
    rw [if_neg (by rw [hm]; simp), if_neg (by rw [Int.toNat_natCast]; simpa using hn), Int.toNat_natCast, h.bd _ hb, h.pw, h.pc, Bool.or_false]
    rfl
  · unfold progP
    rw [if_pos hon]; rfl
  · unfold progC
    rw [if_pos hon, Int.toNat_natCast, Int.toNat_natCast]
    refine ⟨h.n, h.dead, h.out, h.pw, ?_, h.wc, ?_, fun b hb2 => ?_, h.bd⟩
    · show c.pc + 1 = _
      rw [h.pc]; omega
    · show c.cnt + 1 = _
      rw [h.cnt]; omega
    · show upd c.nx (i / 8) (c.nx (i / 8) + 1) b = _
      unfold upd
      by_cases e : b = i / 8
      · rw [if_pos e, e, ← hn]
        unfold nxI
        omega
      · rw [if_neg e, h.nx b hb2]
        unfold nxI
        omega
end Go.Proofs.YtofjabejkcicjaaK

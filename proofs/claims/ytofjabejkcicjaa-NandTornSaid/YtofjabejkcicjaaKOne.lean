import Derived.Test.YtofjabejkcicjaaKFai
import Derived.Test.YtofjabejkcicjaaKPag
namespace Go.Proofs.YtofjabejkcicjaaK
open Go.RowKit
set_option linter.unusedSimpArgs false
set_option linter.unusedVariables false
/-! One chip on its power, made since w0; the example of the document. -/
structure One (w0 w : World) (pb cb rb : Nat) (P : Pw) (c : Ch) : Prop where
  p : PwW w pb P
  c : ChW w [pb, cb, rb] pb cb rb c
  a : Apart [pb, cb, rb] pb cb rb
  b : Below w0.heap.size w0 w
  hp : w0.heap.size ≤ pb
  hc : w0.heap.size ≤ cb
  hr : w0.heap.size ≤ rb
section
variable {w0 w w' : World} {pb cb rb : Nat} {P P' : Pw} {c c' : Ch}
theorem One.below (h : One w0 w pb cb rb P c) (hb : Below w.heap.size w w') : One w0 w' pb cb rb P c :=
  ⟨h.p.below hb, h.c.below hb, h.a, h.b.trans (hb.mono h.b.size), h.hp, h.hc, h.hr⟩
theorem One.drew (h : One w0 w pb cb rb P c) : One w0 w.drew pb cb rb P c := h.below (Below.refl _ _).drew
theorem One.go (h : One w0 w pb cb rb P c) (hp : PwW w' pb P') (hc : ChW w' [pb, cb, rb] pb cb rb c') (g : Chg [pb, cb, rb] w w') : One w0 w' pb cb rb P' c' :=
  ⟨hp, hc, h.a, h.b.trans (g.below h.b.size (by simp; exact ⟨h.hp, h.hc, h.hr⟩)), h.hp, h.hc, h.hr⟩
theorem one_new (hb : Below w0.heap.size w0 w) (pb : Nat) (P : Pw) (c : Ch) (h0 : w0.heap.size ≤ pb) (h1 : pb < w.heap.size) (hp : PwW w' pb P) (hc : ∀ S, ChW w' S pb (w.heap.size + 1) w.heap.size c) (h2 : Below w.heap.size w w') : One w0 w' pb (w.heap.size + 1) w.heap.size P c :=
  ⟨hp, hc _, ⟨by omega, by omega, by omega, by simp, by simp, by simp⟩, hb.trans (h2.mono hb.size), h0, by have := hb.size; omega, hb.size⟩
theorem one_prog (b p : Int) (D : Nat → UInt8) (h : One w0 w pb cb rb P c) (ho : Okay P c) :
    Calls Try.prog 13 #[.pointer (some ⟨cb, 0, none⟩), .int .i64 b, .int .i64 p, .agg (pgL D).toArray] w fun e w' => e = .returned (.int .i64 (progE P c b p)) ∧ One w0 w' pb cb rb (progP P c b p) (progC P c b p D) := by
  refine (prog_any _ pb cb rb P c b p D w h.p h.c h.a ho).mono ?_
  rintro e w' ⟨rfl, h1, h2, h3⟩
  exact ⟨rfl, h.go h1 h2 h3⟩
theorem one_era (b : Int) (h : One w0 w pb cb rb P c) (ho : Okay P c) :
    Calls Try.prog 19 #[.pointer (some ⟨cb, 0, none⟩), .int .i64 b] w fun e w' => e = .returned (.int .i64 (eraE P c b)) ∧ One w0 w' pb cb rb (eraP P c b) (eraC P c b) := by
  refine (era_any _ pb cb rb P c b w h.p h.c h.a ho).mono ?_
  rintro e w' ⟨rfl, h1, h2, h3⟩
  exact ⟨rfl, h.go h1 h2 h3⟩
theorem one_off (h : One w0 w pb cb rb P c) : Calls Try.prog 18 #[.pointer (some ⟨pb, 0, none⟩)] w fun e w' => e = .returned (.bool P.off) ∧ w = w' := off_any pb P.off P.aft P.keep w h.p
theorem one_on (h : One w0 w pb cb rb P c) : Calls Try.prog 20 #[.pointer (some ⟨pb, 0, none⟩)] w fun e w' => (∃ u, e = .returned u) ∧ One w0 w' pb cb rb ⟨false, -1, P.keep⟩ c := by
  refine (on_any pb P.off P.aft P.keep w h.p).mono ?_
  rintro e w' ⟨hu, h1, h3⟩
  have g := Chg.grown h3
  exact ⟨hu, h.go h1 (h.c.chg g (by simp) (by simpa using Ne.symm h.a.pc) (by simpa using Ne.symm h.a.pr)) (g.mono (by simp))⟩
theorem one_cut (a k : Int) (h : One w0 w pb cb rb P c) : Calls Try.prog 17 #[.pointer (some ⟨pb, 0, none⟩), .int .i64 a, .int .i64 k] w fun e w' => (∃ u, e = .returned u) ∧ One w0 w' pb cb rb ⟨P.off, max a (-1), k⟩ c := by
  refine (pcut_any pb P.off P.aft P.keep a k w h.p).mono ?_
  rintro e w' ⟨hu, h1, h3⟩
  have g := Chg.grown h3
  exact ⟨hu, h.go h1 (h.c.chg g (by simp) (by simpa using Ne.symm h.a.pc) (by simpa using Ne.symm h.a.pr)) (g.mono (by simp))⟩
theorem one_count (h : One w0 w pb cb rb P c) : Calls Try.prog 15 #[.pointer (some ⟨cb, 0, none⟩)] w fun e w' => e = .returned (.int .i64 c.cnt) ∧ w = w' := by
  obtain ⟨v1, v2, hC, _⟩ := h.c
  exact count_any cb pb _ _ _ _ _ _ _ _ w hC
theorem one_live (h : One w0 w pb cb rb P c) : Calls Try.prog 24 #[.pointer (some ⟨cb, 0, none⟩)] w fun e w' => e = .returned (.bool (!c.dead && !c.out)) ∧ w = w' := by
  obtain ⟨v1, v2, hC, _⟩ := h.c
  exact live_any cb pb _ _ _ _ _ _ _ _ w hC
/-- The power's cell, that a chip's first cell points to. -/
theorem One.cell0 (h : One w0 w pb cb rb P c) : w.cell? ⟨cb, 0, none⟩ = some (.pointer (some ⟨pb, 0, none⟩)) := by
  obtain ⟨v1, v2, hC, _⟩ := h.c
  exact cellP hC 0
end
def pw0 : Pw := ⟨false, -1, 0⟩
theorem ok_new (n : Nat) (L : List Int) : Okay pw0 (newC n L) := by
  constructor <;> simp [pw0, newC]
/-- A chip behind one Program that went well. -/
theorem progD_okay {P : Pw} {c : Ch} {b p : Nat} {D : Nat → UInt8} {k : Nat} (h : Okay P c) (h1 : c.pc < 1000000) (h2 : c.cnt < 1000000) (P' : Pw) (a1 : -1 ≤ P'.aft) (a2 : P'.aft ≤ 9223372036854775807) : Okay P' (progD P c b p D k) := by
  obtain ⟨x1, x2, x3, x4, x5, x6, x7, x8⟩ := h
  exact ⟨a1, a2, show 0 ≤ c.pc + 1 by omega, show c.pc + 1 < _ by omega, x5, x6, show 0 ≤ c.cnt + 1 by omega, show c.cnt + 1 < _ by omega⟩
theorem sp_1 : progE pw0 (newC 16 []) 3 1 = 32 ∧ progP pw0 (newC 16 []) 3 1 = pw0 ∧ ∀ D, progC pw0 (newC 16 []) 3 1 D = newC 16 [] := by
  have hn : ¬ progOn pw0 (newC 16 []) 3 1 := fun h => by have := h.2; simp [newC] at this
  refine ⟨rfl, if_neg hn, fun D => if_neg hn⟩
def c1D (D : Nat → UInt8) : Ch := progC pw0 (newC 16 []) 3 0 D
theorem sp_on : progOn pw0 (newC 16 []) 3 0 := ⟨rfl, rfl⟩
theorem sp_2 : progE pw0 (newC 16 []) 3 0 = 0 ∧ progP pw0 (newC 16 []) 3 0 = pw0 := ⟨rfl, if_pos sp_on⟩
theorem c1D_eq (D : Nat → UInt8) : c1D D = progD pw0 (newC 16 []) 3 0 D 258 := by
  unfold c1D progC
  rw [if_pos sp_on]; rfl
theorem c1D_ok (D : Nat → UInt8) : Okay pw0 (c1D D) := by
  rw [c1D_eq]
  exact progD_okay (ok_new 16 []) (by simp [newC]) (by simp [newC]) _ (by simp [pw0]) (by simp [pw0])
theorem sp_3 (D : Nat → UInt8) : progE pw0 (c1D D) 3 0 = 32 ∧ progP pw0 (c1D D) 3 0 = pw0 ∧ ∀ D', progC pw0 (c1D D) 3 0 D' = c1D D := by
  have hn : ¬ progOn pw0 (c1D D) 3 0 := fun h => by
    have := h.2
    rw [c1D_eq] at this
    simp [progD, newC, upd] at this
  refine ⟨?_, if_neg hn, fun D' => if_neg hn⟩
  rw [c1D_eq]
  rfl
set_option maxHeartbeats 8000000 in
theorem nand_speaks (w : World) : Calls Try.prog 9 #[] w fun e w' => e = .returned (.bool true) ∧ Below w.heap.size w w' := by
  have HN := Lib.hid (fun (w1 : World) (pb : Nat) => new_any pb 16 (.slice none 0 0) [] [] w1 (by omega) (by omega) (Ints.nil _ _ _ _) rfl)
  have HP := Lib.hid (fun w => page_any 1 w)
  obtain ⟨D, hD⟩ : ∃ D, D = pgF 1 := ⟨_, rfl⟩
  rw [← hD] at HP
  clear hD
  have H1 := Lib.hid (fun (w1 : World) (pb cb rb : Nat) (h : One w w1 pb cb rb pw0 (newC 16 [])) => (by
    have := one_prog 3 1 D h (ok_new 16 [])
    rw [sp_1.1, sp_1.2.1, sp_1.2.2] at this
    exact this : Calls Try.prog 13 #[.pointer (some ⟨cb, 0, none⟩), .int .i64 3, .int .i64 1, .agg (pgL D).toArray] w1 fun e w' => e = .returned (.int .i64 32) ∧ One w w' pb cb rb pw0 (newC 16 [])))
  have H2 := Lib.hid (fun (w1 : World) (pb cb rb : Nat) (h : One w w1 pb cb rb pw0 (newC 16 [])) => (by
    have := one_prog 3 0 D h (ok_new 16 [])
    rw [sp_2.1, sp_2.2] at this
    exact this : Calls Try.prog 13 #[.pointer (some ⟨cb, 0, none⟩), .int .i64 3, .int .i64 0, .agg (pgL D).toArray] w1 fun e w' => e = .returned (.int .i64 0) ∧ One w w' pb cb rb pw0 (c1D D)))
  have H3 := Lib.hid (fun (w1 : World) (pb cb rb : Nat) (h : One w w1 pb cb rb pw0 (c1D D)) => (by
    have := one_prog 3 0 D h (c1D_ok D)
    rw [(sp_3 D).1, (sp_3 D).2.1, (sp_3 D).2.2] at this
    exact this : Calls Try.prog 13 #[.pointer (some ⟨cb, 0, none⟩), .int .i64 3, .int .i64 0, .agg (pgL D).toArray] w1 fun e w' => e = .returned (.int .i64 32) ∧ One w w' pb cb rb pw0 (c1D D)))
  have HZ : encB 1 = .int .u8 1 := rfl
  rw [HZ] at HP
  obtain ⟨L, hL⟩ : ∃ L, L = pgL D := ⟨_, rfl⟩
  rw [← hL] at HP H1 H2 H3
  clear hL HZ
  obtain ⟨pb, hpb⟩ : ∃ pb, pb = w.heap.size := ⟨_, rfl⟩
  have HPB := Lib.hid hpb
  go_enter Try.func9, Try.ntmps9
  go_upto_region 2 with (go_at_call 10; refine (newPower_any _).mono ?_; rintro e w1 ⟨rfl, hp1, hb1⟩)
  simp only [← hpb] at hp1 ⊢
  clear hpb
  have hl1 : pb < w1.heap.size := (Array.getElem?_eq_some_iff.1 hp1).1
  go_upto_region 5 with (go_at_call 11; refine (HN.out w1 pb).mono ?_; rintro e w2 ⟨rfl, hb2, hc2⟩)
  have ho := one_new hb1 pb pw0 (newC 16 []) (by have := HPB.out; omega) hl1 (PwW.below (P := pw0) hp1 hb2) hc2 hb2
  obtain ⟨cb, hcb⟩ : ∃ cb, cb = w1.heap.size + 1 := ⟨_, rfl⟩
  obtain ⟨rb, hrb⟩ : ∃ rb, rb = w1.heap.size := ⟨_, rfl⟩
  rw [← hcb, ← hrb] at ho
  simp only [← hcb]
  have HO := Lib.hid ho
  clear hcb hrb ho hb2 hc2 hb1 hp1 hl1 HN
  go_wp2_with (first
    | (go_at_call 14; refine (HP.out _).mono ?_; rintro e wHO1 ⟨rfl, hb3⟩; have HO1 := Lib.hid (HO.out.below hb3); clear hb3 HO)
    | (go_at_call 13; refine (H1.out _ _ _ _ HO1.out).mono ?_; rintro e wHO2 ⟨rfl, ho⟩; have HO2 := Lib.hid ho; clear ho HO1 H1)
    | (go_at_call 14; refine (HP.out _).mono ?_; rintro e wHO3 ⟨rfl, hb3⟩; have HO3 := Lib.hid (HO2.out.below hb3); clear hb3 HO2)
    | (go_at_call 13; refine (H2.out _ _ _ _ HO3.out).mono ?_; rintro e wHO4 ⟨rfl, ho⟩; have HO4 := Lib.hid ho; clear ho HO3 H2)
    | (go_at_call 14; refine (HP.out _).mono ?_; rintro e wHO5 ⟨rfl, hb3⟩; have HO5 := Lib.hid (HO4.out.below hb3); clear hb3 HO4)
    | (go_at_call 13; refine (H3.out _ _ _ _ HO5.out).mono ?_; rintro e wHO6 ⟨rfl, ho⟩; have HO6 := Lib.hid ho; clear ho HO5 H3))
  go_ret
  exact ⟨rfl, HO6.out.b⟩
end Go.Proofs.YtofjabejkcicjaaK

import Derived.Test.YtofjabejkcicjaaKPrgA
namespace Go.Proofs.YtofjabejkcicjaaK
open Go.RowKit
set_option linter.unusedSimpArgs false
set_option linter.unusedVariables false
/-! Chip.Erase. -/
theorem upd_upd {α : Type} (f : Nat → α) (b : Nat) (v v' : α) : upd (upd f b v) b v' = upd f b v' := by
  funext k
  unfold upd
  by_cases e : k = b
  · rw [if_pos e, if_pos e]
  · rw [if_neg e, if_neg e, if_neg e]
set_option maxRecDepth 100000 in
set_option maxHeartbeats 8000000 in
theorem era_in (S : List Nat) (pb cb rb : Nat) (P : Pw) (c : Ch) (b : Nat) (w : World) (hP : PwW w pb P) (hC : ChW w S pb cb rb c) (ha : Apart S pb cb rb) (ho : Okay P c) (hb : b < c.n) (hon : mayC P c b 0 = 0) :
    Calls Try.prog 19 #[.pointer (some ⟨cb, 0, none⟩), .int .i64 (b : Int)] w fun e w' =>
      e = .returned (.int .i64 (bif pwEnds P.aft then 30 else bif (c.ww.contains c.wc || c.bd b) then 33 else 0)) ∧ PwW w' pb P.act ∧
        ChW w' S pb cb rb { c with M := wiM c.M b (eraN P c b), nx := upd c.nx b (eraX P c b), wc := c.wc + 1, cnt := c.cnt + 1 } ∧ Chg [pb, cb, rb] w w' := by
  obtain ⟨hpc, hpr, hcr, hsp, hsc, hsr⟩ := ha
  obtain ⟨n, M, nx, bd, dead, out, pw, pc, ww, wc, cnt⟩ := c
  obtain ⟨off, aft, keep⟩ := P
  obtain ⟨v1, v2, hCh, hI1, hI2, hR⟩ := hC
  obtain ⟨ha1, ha2, hp1, hp2, hw1, hw2, hc1, hc2⟩ := ho
  unfold eraN eraX
  rw [Int.toNat_natCast]
  dsimp only [PwW, mayC, Pw.act] at *
  have HM := Lib.hid (may_any cb pb _ n n dead out v1 pc v2 wc cnt off aft keep b 0 w hCh hP)
  rw [hon] at HM
  have k0 : w.cell? ⟨cb, 0, none⟩ = some (.pointer (some ⟨pb, 0, none⟩)) := cellP hCh 0
  have k1 : w.cell? ⟨cb, 1, none⟩ = some (.slice (some ⟨rb, 0, none⟩) n n) := cellP hCh 1
  have k8 : w.cell? ⟨cb, 8, none⟩ = some (.int .i64 cnt) := cellP hCh 8
  have z8 := frozenP hCh 8
  have q1 : IntKind.i64.wrap (cnt + 1) = cnt + 1 := by rw [IntKind.wrap_i64]; omega
  obtain ⟨W1, hW1⟩ : ∃ W1, W1 = w.setCell ⟨cb, 8, none⟩ (.int .i64 (cnt + 1)) := ⟨_, rfl⟩
  have g1 : Chg [cb] w W1 := by rw [hW1]; exact (Chg.refl _ _).set ⟨cb, 8, none⟩ (by simp) _
  have hC1 : Chp W1 cb pb (.slice (some ⟨rb, 0, none⟩) n n) dead out v1 pc v2 wc (cnt + 1) := by
    rw [hW1]
    exact Go.Joins.block_setCell (i := 8) hCh (.int .i64 (cnt + 1))
  have hR1 := hR.chg g1 (by simpa using Ne.symm hcr)
  have hP1 := g1.at hP (by simpa using hpc)
  have hK1 := hI1.chg g1 (by simpa using hsc)
  have hK2 := hI2.chg g1 (by simpa using hsc)
  have HA := Lib.hid (act_any cb 6 _ _ v2 ww S wc W1 hC1 rfl rfl hK2 hsc hw1 hw2)
  have HFIN := Lib.hid (fun (w3 w4 w5 : World) (k : Nat) (x : Int) (hC3 : Chp w3 cb pb (.slice (some ⟨rb, 0, none⟩) n n) dead out v1 pc v2 (wc + 1) (cnt + 1)) (g3 : Chg [cb] W1 w3) (hP4 : Pwr w4 pb (pwOff off aft) (pwAft aft) keep) (g4 : Chg [pb, rb] w3 w4)
      (hR5 : Row w5 rb (2066 * n) (blkV (wiM M b k) (upd nx b x) bd)) (g5 : Chg [rb] w4 w5) =>
      (show Pwr w5 pb (pwOff off aft) (pwAft aft) keep ∧ ChW w5 S pb cb rb ⟨n, wiM M b k, upd nx b x, bd, dead, out, pw, pc, ww, wc + 1, cnt + 1⟩ ∧ Chg [pb, cb, rb] w w5 from
        ⟨g5.at hP4 (by simpa using hpr), ⟨v1, v2, g5.at (g4.at hC3 (by simp; exact ⟨Ne.symm hpc, hcr⟩)) (by simpa using hcr),
          ((hK1.chg g3 (by simpa using hsc)).chg g4 (by simp; exact ⟨hsp, hsr⟩)).chg g5 (by simpa using hsr), ((hK2.chg g3 (by simpa using hsc)).chg g4 (by simp; exact ⟨hsp, hsr⟩)).chg g5 (by simpa using hsr), hR5⟩,
          (g1.mono (by simp)).trans ((g3.mono (by simp)).trans ((g4.mono (by simp)).trans (g5.mono (by simp))))⟩))
  have HR3 := Lib.hid (fun (w3 : World) (g3 : Chg [cb] W1 w3) => show Row w3 rb (2066 * n) (blkV M nx bd) from hR1.chg g3 (by simpa using Ne.symm hcr))
  have HRX := Lib.hid (fun (w3 w4 : World) (g3 : Chg [cb] W1 w3) (g4 : Chg [pb] (w3.setCell ⟨rb, b * 2066 + 2064, none⟩ (.int .i64 8)) w4) =>
      (show Row w4 rb (2066 * n) (blkV M (upd nx b 8) bd) ∧ Chg [pb, rb] w3 w4 from
        ⟨(((hR1.chg g3 (by simpa using Ne.symm hcr)).set (b * 2066 + 2064) _).congr fun j hj => blkV_set_next M nx bd b _ j).chg g4 (by simpa using Ne.symm hpr),
          (((Chg.refl [rb] w3).set ⟨rb, b * 2066 + 2064, none⟩ (by simp) _).mono (by simp)).trans (g4.mono (by simp))⟩))
  have HP3 := Lib.hid (fun (w3 : World) (g3 : Chg [cb] W1 w3) => show Pwr (w3.setCell ⟨rb, b * 2066 + 2064, none⟩ (.int .i64 8)) pb off aft keep from ((Chg.refl [rb] w3).set ⟨rb, _, none⟩ (by simp) _).at (g3.at hP1 (by simpa using hpc)) (by simpa using hpr))
  have HEN := Lib.hid (fun w3 (h : Pwr w3 pb off aft keep) => ends_any pb off aft keep w3 h ha1 ha2)
  have HWI := Lib.hid (fun w4 (h : Row w4 rb (2066 * n) (blkV M (upd nx b 8) bd)) (m : Int) => wipe_any rb n b M (upd nx b 8) bd m hb w4 h)
  rw [hW1] at HA
  replace hW1 := Lib.hid hW1
  have b0 : (0 : Int) ≤ b := by omega
  have b1 : (b : Int) < n := by omega
  obtain ⟨fl, hfl⟩ : ∃ x, x = ww.contains wc := ⟨_, rfl⟩
  obtain ⟨en, hen⟩ : ∃ x, x = pwEnds aft := ⟨_, rfl⟩
  obtain ⟨bb, hbb⟩ : ∃ x, x = bd b := ⟨_, rfl⟩
  have HBB := Lib.hid (fun w4 (h : Row w4 rb (2066 * n) (blkV M (upd nx b 8) bd)) => show w4.cell? ⟨rb, b * 2066 + 2065, none⟩ = some (.bool bb) by
    rw [hbb]
    have := h.at (b * 2066 + 2065) (by omega)
    rwa [blkV_bad] at this)
  have HNF := Lib.hid (fun w3 (h : Row w3 rb (2066 * n) (blkV M nx bd)) => (show (∃ z, w3.cell? ⟨rb, b * 2066 + 2064, none⟩ = some z) ∧ w3.frozen? ⟨rb, b * 2066 + 2064, none⟩ = false from ⟨⟨_, h.at (b * 2066 + 2064) (by omega)⟩, h.fr (b * 2066 + 2064) (by omega)⟩))
  have HNG := Lib.hid (fun w3 x (h : Row w3 rb (2066 * n) (blkV (wiM M b x) (upd nx b 8) bd)) => (show (∃ z, w3.cell? ⟨rb, b * 2066 + 2064, none⟩ = some z) ∧ w3.frozen? ⟨rb, b * 2066 + 2064, none⟩ = false from ⟨⟨_, h.at (b * 2066 + 2064) (by omega)⟩, h.fr (b * 2066 + 2064) (by omega)⟩))
  have HZ := Lib.hid (fun w5 (h : Row w5 rb (2066 * n) (blkV (wiM M b 8) (upd nx b 8) bd)) => show Row (w5.setCell ⟨rb, b * 2066 + 2064, none⟩ (.int .i64 0)) rb (2066 * n) (blkV (wiM M b 8) (upd nx b 0) bd) from
    (h.set (b * 2066 + 2064) _).congr fun j hj => (blkV_set_next _ _ bd b _ j).trans (by rw [upd_upd]))
  have HZ0 := Lib.hid (fun w4 (h : Row w4 rb (2066 * n) (blkV M (upd nx b 8) bd)) => show Row w4 rb (2066 * n) (blkV (wiM M b 0) (upd nx b 8) bd) by rw [wiM_zero]; exact h)
  rw [← hfl] at HA ⊢
  rw [← hen] at HEN ⊢
  rw [← hbb]
  clear hfl hen hbb hP hon hCh hI1 hI2 hR ha1 ha2 hp1 hp2 hw1 hw2 hc1 hc2 g1 hC1 hR1 hP1 hK1 hK2 hsp hsc hsr
  rcases en with _ | _
  rotate_left
  · go_enter Try.func19, Try.ntmps19
    go_wp2_with (first
      | (go_at_call 37; refine HM.out.mono ?_; rintro e w2 ⟨rfl, rfl⟩)
      | (go_at_call 38; refine HA.out.mono ?_; rintro e w3 ⟨rfl, hC3, g3⟩; rw [← hW1.out] at g3; have e0 : w3.cell? ⟨cb, 0, none⟩ = some (.pointer (some ⟨pb, 0, none⟩)) := cellP hC3 0; replace hC3 := Lib.hid hC3; have G3 := Lib.hid g3; have HP3' := Lib.hid (HP3.out w3 g3); obtain ⟨⟨z3, hz3⟩, hf3⟩ := HNF.out w3 (HR3.out w3 g3); clear g3)
      | (go_at_call 39; refine (HEN.out _ HP3'.out).mono ?_; rintro e w4 ⟨rfl, hP4, g4⟩; obtain ⟨hR4, g5⟩ := HRX.out w3 w4 G3.out (Chg.grown g4); have G4 := Lib.hid g5; have f0 := g5.cell e0 (by simp; exact ⟨Ne.symm hpc, hcr⟩); have f2 : w4.cell? ⟨pb, 2, none⟩ = some (.int .i64 keep) := cellP hP4 2; have fb := HBB.out w4 hR4; have HR4 := Lib.hid hR4; replace hP4 := Lib.hid hP4; clear g4 g5 hR4)
      | (go_at_call 35; refine (HWI.out _ HR4.out _).mono ?_; rintro e w5 ⟨⟨u, rfl⟩, hR6, g6⟩))
    go_ret
    exact ⟨rfl, HFIN.out w3 w4 w5 _ _ hC3.out G3.out hP4.out G4.out hR6 g6⟩
  rcases fl with _ | _
  rotate_left
  · go_enter Try.func19, Try.ntmps19
    go_wp2_with (first
      | (go_at_call 37; refine HM.out.mono ?_; rintro e w2 ⟨rfl, rfl⟩)
      | (go_at_call 38; refine HA.out.mono ?_; rintro e w3 ⟨rfl, hC3, g3⟩; rw [← hW1.out] at g3; have e0 : w3.cell? ⟨cb, 0, none⟩ = some (.pointer (some ⟨pb, 0, none⟩)) := cellP hC3 0; replace hC3 := Lib.hid hC3; have G3 := Lib.hid g3; have HP3' := Lib.hid (HP3.out w3 g3); obtain ⟨⟨z3, hz3⟩, hf3⟩ := HNF.out w3 (HR3.out w3 g3); clear g3)
      | (go_at_call 39; refine (HEN.out _ HP3'.out).mono ?_; rintro e w4 ⟨rfl, hP4, g4⟩; obtain ⟨hR4, g5⟩ := HRX.out w3 w4 G3.out (Chg.grown g4); have G4 := Lib.hid g5; have f0 := g5.cell e0 (by simp; exact ⟨Ne.symm hpc, hcr⟩); have f2 : w4.cell? ⟨pb, 2, none⟩ = some (.int .i64 keep) := cellP hP4 2; have fb := HBB.out w4 hR4; have HR4 := Lib.hid hR4; replace hP4 := Lib.hid hP4; clear g4 g5 hR4))
    go_ret
    exact ⟨rfl, HFIN.out w3 w4 w4 0 _ hC3.out G3.out hP4.out G4.out (HZ0.out _ HR4.out) (Chg.refl _ _)⟩
  rcases bb with _ | _
  rotate_left
  · go_enter Try.func19, Try.ntmps19
    go_wp2_with (first
      | (go_at_call 37; refine HM.out.mono ?_; rintro e w2 ⟨rfl, rfl⟩)
      | (go_at_call 38; refine HA.out.mono ?_; rintro e w3 ⟨rfl, hC3, g3⟩; rw [← hW1.out] at g3; have e0 : w3.cell? ⟨cb, 0, none⟩ = some (.pointer (some ⟨pb, 0, none⟩)) := cellP hC3 0; replace hC3 := Lib.hid hC3; have G3 := Lib.hid g3; have HP3' := Lib.hid (HP3.out w3 g3); obtain ⟨⟨z3, hz3⟩, hf3⟩ := HNF.out w3 (HR3.out w3 g3); clear g3)
      | (go_at_call 39; refine (HEN.out _ HP3'.out).mono ?_; rintro e w4 ⟨rfl, hP4, g4⟩; obtain ⟨hR4, g5⟩ := HRX.out w3 w4 G3.out (Chg.grown g4); have G4 := Lib.hid g5; have f0 := g5.cell e0 (by simp; exact ⟨Ne.symm hpc, hcr⟩); have f2 : w4.cell? ⟨pb, 2, none⟩ = some (.int .i64 keep) := cellP hP4 2; have fb := HBB.out w4 hR4; have HR4 := Lib.hid hR4; replace hP4 := Lib.hid hP4; clear g4 g5 hR4))
    go_ret
    exact ⟨rfl, HFIN.out w3 w4 w4 0 _ hC3.out G3.out hP4.out G4.out (HZ0.out _ HR4.out) (Chg.refl _ _)⟩
  · go_enter Try.func19, Try.ntmps19
    go_wp2_with (first
      | (go_at_call 37; refine HM.out.mono ?_; rintro e w2 ⟨rfl, rfl⟩)
      | (go_at_call 38; refine HA.out.mono ?_; rintro e w3 ⟨rfl, hC3, g3⟩; rw [← hW1.out] at g3; have e0 : w3.cell? ⟨cb, 0, none⟩ = some (.pointer (some ⟨pb, 0, none⟩)) := cellP hC3 0; replace hC3 := Lib.hid hC3; have G3 := Lib.hid g3; have HP3' := Lib.hid (HP3.out w3 g3); obtain ⟨⟨z3, hz3⟩, hf3⟩ := HNF.out w3 (HR3.out w3 g3); clear g3)
      | (go_at_call 39; refine (HEN.out _ HP3'.out).mono ?_; rintro e w4 ⟨rfl, hP4, g4⟩; obtain ⟨hR4, g5⟩ := HRX.out w3 w4 G3.out (Chg.grown g4); have G4 := Lib.hid g5; have f0 := g5.cell e0 (by simp; exact ⟨Ne.symm hpc, hcr⟩); have f2 : w4.cell? ⟨pb, 2, none⟩ = some (.int .i64 keep) := cellP hP4 2; have fb := HBB.out w4 hR4; have HR4 := Lib.hid hR4; replace hP4 := Lib.hid hP4; clear g4 g5 hR4)
      | (go_at_call 35; refine (HWI.out _ HR4.out _).mono ?_; rintro e w5 ⟨⟨u, rfl⟩, hR6, g6⟩; rw [show clampN 8 8 = 8 from by decide] at hR6; obtain ⟨⟨z7, hz7⟩, hf7⟩ := HNG.out _ _ hR6; replace hR6 := Lib.hid hR6; have G6 := Lib.hid g6; clear g6))
    go_ret
    exact ⟨rfl, HFIN.out w3 w4 _ 8 _ hC3.out G3.out hP4.out G4.out (HZ.out _ hR6.out) (G6.out.set ⟨rb, _, none⟩ (by simp) _)⟩
set_option maxRecDepth 100000 in
set_option maxHeartbeats 8000000 in
theorem era_any (S : List Nat) (pb cb rb : Nat) (P : Pw) (c : Ch) (b : Int) (w : World) (hP : PwW w pb P) (hC : ChW w S pb cb rb c) (ha : Apart S pb cb rb) (ho : Okay P c) :
    Calls Try.prog 19 #[.pointer (some ⟨cb, 0, none⟩), .int .i64 b] w fun e w' =>
      e = .returned (.int .i64 (eraE P c b)) ∧ PwW w' pb (eraP P c b) ∧ ChW w' S pb cb rb (eraC P c b) ∧ Chg [pb, cb, rb] w w' := by
  obtain ⟨x, hx⟩ : ∃ x, x = mayC P c b 0 := ⟨_, rfl⟩
  by_cases hon : x = 0
  · have hon' : mayC P c b 0 = 0 := by rw [← hx]; exact hon
    obtain ⟨_, _, _, hb0, hb1, hp0, hp8⟩ := mayC_zero hon'
    obtain ⟨B, rfl⟩ : ∃ B : Nat, b = B := ⟨b.toNat, by omega⟩
    have h := era_in S pb cb rb P c B w hP hC ha ho (by omega) hon'
    unfold eraE eraP eraC
    rw [if_pos hon', if_pos hon', if_neg (by rw [hon']; simp), Int.toNat_natCast]
    exact h
  · have e1 : ¬ mayC P c b 0 = 0 := by rw [← hx]; exact hon
    unfold eraE eraP eraC
    rw [if_neg e1, if_neg e1, if_pos e1, ← hx]
    clear e1
    have HF := Lib.hid (⟨hP, hC, Chg.refl _ _⟩ : PwW w pb P ∧ ChW w S pb cb rb c ∧ Chg [pb, cb, rb] w w)
    obtain ⟨v1, v2, hCh, hI1, hI2, hR⟩ := hC
    have HM := Lib.hid (may_any cb pb _ c.n c.n c.dead c.out v1 c.pc v2 c.wc c.cnt P.off P.aft P.keep b 0 w hCh hP)
    have hx2 : x = mayI P.off (!c.dead && !c.out) c.n b 0 := hx
    rw [← hx2] at HM
    have hne : (x != 0) = true := by simpa using hon
    clear hx hx2 hCh hI1 hI2 hR hP ha ho
    go_enter Try.func19, Try.ntmps19
    go_wp2_with (go_at_call 37; refine HM.out.mono ?_; rintro e w2 ⟨rfl, rfl⟩)
    go_ret
    exact ⟨rfl, HF.out⟩
end Go.Proofs.YtofjabejkcicjaaK

import Derived.Test.YtofjabejkcicjaaKChp
import Derived.Deep.DeepCutAuto
namespace Go.Proofs.YtofjabejkcicjaaK
open Go.RowKit
set_option linter.unusedSimpArgs false
set_option linter.unusedVariables false
/-! Chip.Program. -/
theorem pgL_load (w : World) (xb : Nat) (D : Nat → UInt8) (L : List Value) (hL : L = pgL D) (h : Row w xb 258 (fun i => encB (D i))) : w.rangeAt xb 0 L :=
  h.range 0 L (by rw [hL, pgL_len]; omega) (fun k hk => by rw [hL, pgL_len] at hk; rw [hL, pgL_at _ k hk, Nat.zero_add])
theorem still_load_mid {P : Program} {ops : Array Oper} {w : World} {Q : Act → Prop} {a : Act} {o : Oper} {rest : List Oper} (hgd : Region.wanted o (yielded ops a.tmps) = true) (ty : TypeId) (x : Operand) (ho : o.op = .load ty x)
    (b off : Nat) (hx : a.eval x = .pointer (some ⟨b, off, none⟩)) (cs : List Value) (d : TypeDesc) (hc : w.rangeAt b off cs)
    (hu : P.underlying ty = some d) (hd : d.isRow = true) (hi : (P.info? ty).map (·.size) = some cs.length)
    (h : wpStill P ops w Q rest (a.put o.dst (.agg cs.toArray))) : wpStill P ops w Q (o :: rest) a := by
  refine wpStill_step fun K hK => ?_
  rw [if_pos hgd]
  unfold Oper.still execOp
  simp only [ho, hx, Instr.loadAt, Instr.sureAddr, Sem.run_bind, Sem.run_pure, Result.andThen_ok, run_loadVar_mid w b off ty cs d hc hu hd hi, Oper.stillUpon_value]
  exact hK _ h
set_option maxRecDepth 100000 in
set_option maxHeartbeats 8000000 in
theorem prog_in (S : List Nat) (pb cb rb : Nat) (P : Pw) (c : Ch) (b p : Nat) (D : Nat → UInt8) (w : World) (hP : PwW w pb P) (hC : ChW w S pb cb rb c) (ha : Apart S pb cb rb) (ho : Okay P c) (hb : b < c.n) (hp : p < 8) (hon : mayC P c b p = 0) (hnx : c.nx b = p) :
    Calls Try.prog 13 #[.pointer (some ⟨cb, 0, none⟩), .int .i64 (b : Int), .int .i64 (p : Int), .agg (pgL D).toArray] w fun e w' =>
      e = .returned (.int .i64 (bif pwEnds P.aft then 30 else bif (c.pw.contains c.pc || c.bd b) then 33 else 0)) ∧ PwW w' pb P.act ∧ ChW w' S pb cb rb (progD P c b p D (progN P c b)) ∧ Chg [pb, cb, rb] w w' := by
  obtain ⟨hpc, hpr, hcr, hsp, hsc, hsr⟩ := ha
  obtain ⟨n, M, nx, bd, dead, out, pw, pc, ww, wc, cnt⟩ := c
  obtain ⟨off, aft, keep⟩ := P
  obtain ⟨v1, v2, hCh, hI1, hI2, hR⟩ := hC
  obtain ⟨ha1, ha2, hp1, hp2, hw1, hw2, hc1, hc2⟩ := ho
  unfold progD progN
  rw [Int.toNat_natCast]
  dsimp only [PwW, mayC, Pw.act] at *
  obtain ⟨L, hL⟩ : ∃ L, L = pgL D := ⟨_, rfl⟩
  rw [← hL]
  obtain ⟨xb, hxb⟩ : ∃ xb, xb = w.heap.size := ⟨_, rfl⟩
  obtain ⟨W, hW⟩ : ∃ W, W = w.alloc (.cells L.toArray 34) := ⟨_, rfl⟩
  have hbl : Below w.heap.size w W := by rw [hW]; exact (Below.refl _ _).alloc (Nat.le_refl _) _
  have hXr : Row W xb 258 (fun i => encB (D i)) := by
    have := arr_toRow (arr_newL w L 34) (fun i => encB (D i)) (fun k hk => by rw [hL, pgL_len] at hk; rw [hL, pgL_at _ k hk])
    rwa [hL, pgL_len, ← hL, ← hW, ← hxb] at this
  have hxc : xb ≠ cb := by have := (Array.getElem?_eq_some_iff.1 hCh).1; omega
  have hxr : xb ≠ rb := by have := hR.lt; omega
  have hxp : xb ≠ pb := by have := (Array.getElem?_eq_some_iff.1 hP).1; omega
  have hG0 : Chg [] w W := Chg.ofBelow hbl
  have hP0 := hG0.at hP (by simp)
  have hC0 := hG0.at hCh (by simp)
  have hJ1 := hI1.chg hG0 (by simp)
  have hJ2 := hI2.chg hG0 (by simp)
  have hR0 := hR.chg hG0 (by simp)
  have HM := Lib.hid (may_any cb pb _ n n dead out v1 pc v2 wc cnt off aft keep b p W hC0 hP0)
  rw [hon] at HM
  have k0 : W.cell? ⟨cb, 0, none⟩ = some (.pointer (some ⟨pb, 0, none⟩)) := cellP hC0 0
  have k1 : W.cell? ⟨cb, 1, none⟩ = some (.slice (some ⟨rb, 0, none⟩) n n) := cellP hC0 1
  have k8 : W.cell? ⟨cb, 8, none⟩ = some (.int .i64 cnt) := cellP hC0 8
  have z8 := frozenP hC0 8
  have hnl : b * 2066 + 2064 < 2066 * n := by omega
  have r1 := hR0.at _ hnl
  have y1 := hR0.fr _ hnl
  rw [blkV_next, hnx] at r1
  have q1 : IntKind.i64.wrap (cnt + 1) = cnt + 1 := by rw [IntKind.wrap_i64]; omega
  have q2 : IntKind.i64.wrap ((p : Int) + 1) = (p : Int) + 1 := by rw [IntKind.wrap_i64]; omega
  obtain ⟨W1, hW1⟩ : ∃ W1, W1 = (W.setCell ⟨cb, 8, none⟩ (.int .i64 (cnt + 1))).setCell ⟨rb, b * 2066 + 2064, none⟩ (.int .i64 ((p : Int) + 1)) := ⟨_, rfl⟩
  have g1 : Chg [cb, rb] W W1 := by rw [hW1]; exact ((Chg.refl _ _).set ⟨cb, 8, none⟩ (by simp) _).set ⟨rb, _, none⟩ (by simp) _
  have hC1 : Chp W1 cb pb (.slice (some ⟨rb, 0, none⟩) n n) dead out v1 pc v2 wc (cnt + 1) := by
    rw [hW1]
    exact ((Chg.refl [rb] _).set ⟨rb, _, none⟩ (by simp) _).at (Go.Joins.block_setCell (i := 8) hC0 (.int .i64 (cnt + 1))) (by simpa using hcr)
  have hR1 : Row W1 rb (2066 * n) (blkV M (upd nx b (nx b + 1)) bd) := by
    rw [hW1, hnx]
    exact ((hR0.chg ((Chg.refl [cb] _).set ⟨cb, 8, none⟩ (by simp) _) (by simpa using Ne.symm hcr)).set (b * 2066 + 2064) _).congr fun j hj => blkV_set_next M nx bd b _ j
  have hP1 := g1.at hP0 (by simp; exact ⟨hpc, hpr⟩)
  have hX1 := hXr.chg g1 (by simp; exact ⟨hxc, hxr⟩)
  have hK1 := hJ1.chg g1 (by simp; exact ⟨hsc, hsr⟩)
  have hK2 := hJ2.chg g1 (by simp; exact ⟨hsc, hsr⟩)
  have HA := Lib.hid (act_any cb 4 _ _ v1 pw S pc W1 hC1 rfl rfl hK1 hsc hp1 hp2)
  have gW1 : Chg [pb, cb, rb] w W1 := (hG0.mono (by simp)).trans (g1.mono (by simp))
  have HFIN := Lib.hid (fun (w3 w4 w5 : World) (k : Nat) (hC3 : Chp w3 cb pb (.slice (some ⟨rb, 0, none⟩) n n) dead out v1 (pc + 1) v2 wc (cnt + 1)) (g3 : Chg [cb] W1 w3) (hP4 : Pwr w4 pb (pwOff off aft) (pwAft aft) keep) (g4 : Chg [pb] w3 w4)
      (hR5 : Row w5 rb (2066 * n) (blkV (updP M b p (wrG (M b p) D k)) (upd nx b (nx b + 1)) bd)) (g5 : Chg [rb] w4 w5) =>
      (show Pwr w5 pb (pwOff off aft) (pwAft aft) keep ∧ ChW w5 S pb cb rb ⟨n, updP M b p (wrG (M b p) D k), upd nx b (nx b + 1), bd, dead, out, pw, pc + 1, ww, wc, cnt + 1⟩ ∧ Chg [pb, cb, rb] w w5 from
        ⟨g5.at hP4 (by simpa using hpr), ⟨v1, v2, g5.at (g4.at hC3 (by simpa using Ne.symm hpc)) (by simpa using hcr),
          ((hK1.chg g3 (by simpa using hsc)).chg g4 (by simpa using hsp)).chg g5 (by simpa using hsr), ((hK2.chg g3 (by simpa using hsc)).chg g4 (by simpa using hsp)).chg g5 (by simpa using hsr), hR5⟩,
          gW1.trans ((g3.mono (by simp)).trans ((g4.mono (by simp)).trans (g5.mono (by simp))))⟩))
  have HRX := Lib.hid (fun (w3 w4 : World) (g3 : Chg [cb] W1 w3) (g4 : Chg [pb] w3 w4) =>
      (show Row w4 rb (2066 * n) (blkV M (upd nx b (nx b + 1)) bd) ∧ w4.rangeAt xb 0 L from
        ⟨(hR1.chg g3 (by simpa using Ne.symm hcr)).chg g4 (by simpa using Ne.symm hpr), pgL_load _ _ D L hL ((hX1.chg g3 (by simpa using hxc)).chg g4 (by simpa using hxp))⟩))
  have HP3 := Lib.hid (fun (w3 : World) (g3 : Chg [cb] W1 w3) => show Pwr w3 pb off aft keep from g3.at hP1 (by simpa using hpc))
  have HEN := Lib.hid (fun w3 (h : Pwr w3 pb off aft keep) => ends_any pb off aft keep w3 h ha1 ha2)
  have HWR := Lib.hid (fun w4 (h : Row w4 rb (2066 * n) (blkV M (upd nx b (nx b + 1)) bd)) (m : Int) => write_any rb n b p M (upd nx b (nx b + 1)) bd D m hp hb w4 h)
  rw [← hL] at HWR
  have HI := Lib.hid (show (Try.prog.info? 34).map (·.size) = some L.length by rw [hL, pgL_len]; exact page_info)
  rw [hW1] at HA
  replace hW1 := Lib.hid hW1
  have b0 : (0 : Int) ≤ b := by omega
  have b1 : (b : Int) < n := by omega
  have hne : ((p : Int) != (p : Int)) = false := by simp
  obtain ⟨fl, hfl⟩ : ∃ x, x = pw.contains pc := ⟨_, rfl⟩
  obtain ⟨en, hen⟩ : ∃ x, x = pwEnds aft := ⟨_, rfl⟩
  obtain ⟨bb, hbb⟩ : ∃ x, x = bd b := ⟨_, rfl⟩
  have HBB := Lib.hid (fun w4 (h : Row w4 rb (2066 * n) (blkV M (upd nx b (nx b + 1)) bd)) => show w4.cell? ⟨rb, b * 2066 + 2065, none⟩ = some (.bool bb) by
    rw [hbb]
    have := h.at (b * 2066 + 2065) (by omega)
    rwa [blkV_bad] at this)
  rw [← hfl] at HA ⊢
  rw [← hen] at HEN ⊢
  rw [← hbb]
  clear hfl hen hbb hP hon hCh hI1 hI2 hR ha1 ha2 hp1 hp2 hw1 hw2 hc1 hc2 hL hXr hbl hG0 hP0 hC0 hJ1 hJ2 hR0 g1 hC1 hR1 hP1 hX1 hK1 hK2 gW1 hnx hsp hsc hsr hnl
  have hX9 := Lib.hid hxb
  have hWW := Lib.hid hW
  rcases en with _ | _
  rotate_left
  · go_enter Try.func13, Try.ntmps13
    go_upto_region 1 with fail
    rw [← hW]
    simp only [← hxb]
    clear hW hxb
    go_wp2_with (first
      | (go_at_call 37; refine HM.out.mono ?_; rintro e w2 ⟨rfl, rfl⟩)
      | (go_at_call 38; refine HA.out.mono ?_; rintro e w3 ⟨rfl, hC3, g3⟩; rw [← hW1.out] at g3; have e0 : w3.cell? ⟨cb, 0, none⟩ = some (.pointer (some ⟨pb, 0, none⟩)) := cellP hC3 0; replace hC3 := Lib.hid hC3; have G3 := Lib.hid g3; have hP3 := HP3.out w3 g3; have HP3' := Lib.hid hP3; clear g3 hP3)
      | (go_at_call 39; refine (HEN.out _ HP3'.out).mono ?_; rintro e w4 ⟨rfl, hP4, g4⟩; have G4 := Lib.hid (Chg.grown g4); have hRX := HRX.out w3 w4 G3.out G4.out; have f0 := G4.out.cell e0 (by simpa using Ne.symm hpc); have f2 : w4.cell? ⟨pb, 2, none⟩ = some (.int .i64 keep) := cellP hP4 2; have fb := HBB.out w4 hRX.1; have HR4 := Lib.hid hRX.1; have hX4 := hRX.2; replace hP4 := Lib.hid hP4; clear g4 hRX))
    go_still_tail 10, (by kernel_rfl)
    refine still_load_mid rfl 34 _ rfl xb 0 rfl L _ hX4 Try.underlying34 rfl HI.out ?_
    refine wpStill_nil ?_
    change wpList _ _ _ _ _ w4.drew
    have hR5 : Row w4.drew rb (2066 * n) (blkV M (upd nx b (nx b + 1)) bd) := HR4.out.chg (S := []) (Chg.refl _ _).drew (by simp)
    have HR5 := Lib.hid hR5
    clear hR5
    go_wp2_with (go_at_call 40; refine (HWR.out _ HR5.out _).mono ?_; rintro e w5 ⟨⟨u, rfl⟩, hR6, g6⟩)
    go_ret
    exact ⟨rfl, HFIN.out w3 w4 w5 _ hC3.out G3.out hP4.out G4.out hR6 ((Chg.refl _ _).drew.trans g6)⟩
  rcases fl with _ | _
  rotate_left
  · go_enter Try.func13, Try.ntmps13
    go_upto_region 1 with fail
    rw [← hW]
    simp only [← hxb]
    clear hW hxb
    go_wp2_with (first
      | (go_at_call 37; refine HM.out.mono ?_; rintro e w2 ⟨rfl, rfl⟩)
      | (go_at_call 38; refine HA.out.mono ?_; rintro e w3 ⟨rfl, hC3, g3⟩; rw [← hW1.out] at g3; have e0 : w3.cell? ⟨cb, 0, none⟩ = some (.pointer (some ⟨pb, 0, none⟩)) := cellP hC3 0; replace hC3 := Lib.hid hC3; have G3 := Lib.hid g3; have hP3 := HP3.out w3 g3; have HP3' := Lib.hid hP3; clear g3 hP3)
      | (go_at_call 39; refine (HEN.out _ HP3'.out).mono ?_; rintro e w4 ⟨rfl, hP4, g4⟩; have G4 := Lib.hid (Chg.grown g4); have hRX := HRX.out w3 w4 G3.out G4.out; have f0 := G4.out.cell e0 (by simpa using Ne.symm hpc); have f2 : w4.cell? ⟨pb, 2, none⟩ = some (.int .i64 keep) := cellP hP4 2; have fb := HBB.out w4 hRX.1; have HR4 := Lib.hid hRX.1; have hX4 := hRX.2; replace hP4 := Lib.hid hP4; clear g4 hRX)
      | (refine wpList_load_mid rfl 34 _ rfl xb 0 rfl L _ hX4 Try.underlying34 rfl HI.out ?_)
      | (refine wp_load_mid 34 _ rfl xb 0 rfl L _ hX4 Try.underlying34 rfl HI.out ?_)
      | (go_at_call 40; refine (HWR.out _ HR4.out _).mono ?_; rintro e w5 ⟨⟨u, rfl⟩, hR6, g6⟩))
    go_ret
    exact ⟨rfl, HFIN.out w3 w4 w5 _ hC3.out G3.out hP4.out G4.out hR6 g6⟩
  rcases bb with _ | _
  rotate_left
  · go_enter Try.func13, Try.ntmps13
    go_upto_region 1 with fail
    rw [← hW]
    simp only [← hxb]
    clear hW hxb
    go_wp2_with (first
      | (go_at_call 37; refine HM.out.mono ?_; rintro e w2 ⟨rfl, rfl⟩)
      | (go_at_call 38; refine HA.out.mono ?_; rintro e w3 ⟨rfl, hC3, g3⟩; rw [← hW1.out] at g3; have e0 : w3.cell? ⟨cb, 0, none⟩ = some (.pointer (some ⟨pb, 0, none⟩)) := cellP hC3 0; replace hC3 := Lib.hid hC3; have G3 := Lib.hid g3; have hP3 := HP3.out w3 g3; have HP3' := Lib.hid hP3; clear g3 hP3)
      | (go_at_call 39; refine (HEN.out _ HP3'.out).mono ?_; rintro e w4 ⟨rfl, hP4, g4⟩; have G4 := Lib.hid (Chg.grown g4); have hRX := HRX.out w3 w4 G3.out G4.out; have f0 := G4.out.cell e0 (by simpa using Ne.symm hpc); have f2 : w4.cell? ⟨pb, 2, none⟩ = some (.int .i64 keep) := cellP hP4 2; have fb := HBB.out w4 hRX.1; have HR4 := Lib.hid hRX.1; have hX4 := hRX.2; replace hP4 := Lib.hid hP4; clear g4 hRX)
      | (refine wpList_load_mid rfl 34 _ rfl xb 0 rfl L _ hX4 Try.underlying34 rfl HI.out ?_)
      | (refine wp_load_mid 34 _ rfl xb 0 rfl L _ hX4 Try.underlying34 rfl HI.out ?_)
      | (go_at_call 40; refine (HWR.out _ HR4.out _).mono ?_; rintro e w5 ⟨⟨u, rfl⟩, hR6, g6⟩))
    go_ret
    exact ⟨rfl, HFIN.out w3 w4 w5 _ hC3.out G3.out hP4.out G4.out hR6 g6⟩
  · go_enter Try.func13, Try.ntmps13
    go_upto_region 1 with fail
    rw [← hW]
    simp only [← hxb]
    clear hW hxb
    go_wp2_with (first
      | (go_at_call 37; refine HM.out.mono ?_; rintro e w2 ⟨rfl, rfl⟩)
      | (go_at_call 38; refine HA.out.mono ?_; rintro e w3 ⟨rfl, hC3, g3⟩; rw [← hW1.out] at g3; have e0 : w3.cell? ⟨cb, 0, none⟩ = some (.pointer (some ⟨pb, 0, none⟩)) := cellP hC3 0; replace hC3 := Lib.hid hC3; have G3 := Lib.hid g3; have hP3 := HP3.out w3 g3; have HP3' := Lib.hid hP3; clear g3 hP3)
      | (go_at_call 39; refine (HEN.out _ HP3'.out).mono ?_; rintro e w4 ⟨rfl, hP4, g4⟩; have G4 := Lib.hid (Chg.grown g4); have hRX := HRX.out w3 w4 G3.out G4.out; have f0 := G4.out.cell e0 (by simpa using Ne.symm hpc); have f2 : w4.cell? ⟨pb, 2, none⟩ = some (.int .i64 keep) := cellP hP4 2; have fb := HBB.out w4 hRX.1; have HR4 := Lib.hid hRX.1; have hX4 := hRX.2; replace hP4 := Lib.hid hP4; clear g4 hRX)
      | (refine wpList_load_mid rfl 34 _ rfl xb 0 rfl L _ hX4 Try.underlying34 rfl HI.out ?_)
      | (refine wp_load_mid 34 _ rfl xb 0 rfl L _ hX4 Try.underlying34 rfl HI.out ?_)
      | (go_at_call 40; refine (HWR.out _ HR4.out _).mono ?_; rintro e w5 ⟨⟨u, rfl⟩, hR6, g6⟩))
    go_ret
    exact ⟨rfl, HFIN.out w3 w4 w5 _ hC3.out G3.out hP4.out G4.out hR6 g6⟩
end Go.Proofs.YtofjabejkcicjaaK

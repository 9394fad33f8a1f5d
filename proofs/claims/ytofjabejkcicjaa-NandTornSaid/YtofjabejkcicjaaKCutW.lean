import Derived.Test.YtofjabejkcicjaaKCut
import Derived.Deep.RegionHeld3
namespace Go.Proofs.YtofjabejkcicjaaK
open Go.RowKit
set_option linter.unusedSimpArgs false
set_option linter.unusedVariables false
/-! NandCuts. -/
theorem ci_new (n : Nat) (keep : Int) : CI n ⟨false, max (n : Int) (-1), keep⟩ (newC 20 []) := by
  refine ⟨.inl ⟨rfl, ?_, ?_⟩, ?_, ?_, ?_, ?_, ?_⟩ <;> simp [newC] <;> omega
/-- A call's variable, of which some cells are read. -/
def Ov (w : World) (ob : Nat) (o : Sop) : Prop := w.cell? ⟨ob, 0, none⟩ = some (.int .i64 o.kind) ∧ w.cell? ⟨ob, 2, none⟩ = some (.int .i64 o.block) ∧ w.cell? ⟨ob, 3, none⟩ = some (.int .i64 o.page) ∧ w.cell? ⟨ob, 6, none⟩ = some (.int .u8 (o.byte.toNat : Int))
theorem Ov.chg {S : List Nat} {w w' : World} {ob : Nat} {o : Sop} (h : Ov w ob o) (g : Chg S w w') (hn : ob ∉ S) : Ov w' ob o :=
  ⟨g.cell h.1 hn, g.cell h.2.1 hn, g.cell h.2.2.1 hn, g.cell h.2.2.2 hn⟩
theorem Ov.below {w w' : World} {ob : Nat} {o : Sop} (h : Ov w ob o) (hb : Below w.heap.size w w') : Ov w' ob o := h.chg (S := []) (Chg.ofBelow hb) (by simp)
theorem Below.drewN {w w' : World} {B : Nat} (h : Below B w w') (q : Nat) : Below B w (w'.drewN q) := ⟨h.os, h.tape, h.output, h.size, h.block⟩
theorem wfI_and1 (x : Int) : x % 2 = 0 ∨ x % 2 = 1 := by omega
set_option maxRecDepth 100000 in
set_option maxHeartbeats 20000000 in
theorem nandCuts_walk (after keep : Int) (A : Option Addr) (n c0 : Nat) (os : List Sop) (w : World) (hX : Ops w (.slice A n c0) os) :
    Calls Try.prog 4 #[.int .i64 after, .int .i64 keep, .slice A n c0] w fun e w' => e = .returned (.bool true) ∧ Below w.heap.size w w' := by
  have hlen := hX.len
  have HNN := Lib.hid hlen
  have h63 := hX.max
  have HL := Lib.hid (fun (wr : World) (hb : Below w.heap.size w wr) (k : Nat) (hk : k < os.length) => (hX.below hb).at k hk)
  have HGR := Lib.hid (fun (wr : World) (hb : Below w.heap.size w wr) => great_any A n c0 os wr (hX.below hb))
  obtain ⟨g, hg⟩ : ∃ g, g = greatB os := ⟨_, rfl⟩
  rw [← hg] at HGR
  have hand := and_31 after
  obtain ⟨N, hN⟩ : ∃ N : Nat, (N : Int) = after % 32 := ⟨(after % 32).toNat, by omega⟩
  rw [← hN] at hand
  have hN8 : N < 32 := by omega
  clear hN
  have hgl : g = false → n ≤ 120 := by
    intro e
    rw [hg] at e
    unfold greatB at e
    rw [Bool.or_eq_false_iff] at e
    have := e.1
    rw [hlen]
    simpa using this
  clear hX hlen hg
  rcases g with _ | _
  rotate_left
  · go_enter Try.func4, Try.ntmps4
    go_wp2_with (first
      | (go_at_call 9; refine (nand_speaks _).mono ?_; rintro e w1 ⟨rfl, hb1⟩)
      | (go_at_call 16; refine (HGR.out _ hb1).mono ?_; rintro e w2 ⟨rfl, hb2⟩; have hb3 := hb1.trans (hb2.mono hb1.size)))
    go_ret
    exact ⟨rfl, hb3⟩
  have hn120 := hgl rfl
  clear hgl
  have HN := Lib.hid (fun (w1 : World) (pb : Nat) => new_any pb 20 (.slice none 0 0) [] [] w1 (by omega) (by omega) (Ints.nil _ _ _ _) rfl)
  go_enter Try.func4, Try.ntmps4
  go_upto_region 6 with (first
    | (go_at_call 9; refine (nand_speaks _).mono ?_; rintro e w1 ⟨rfl, hb1⟩)
    | (go_at_call 16; refine (HGR.out _ hb1).mono ?_; rintro e w9 ⟨rfl, hb9⟩; have hb8 := hb1.trans (hb9.mono hb1.size); clear hb9)
    | (go_at_call 10; refine (newPower_any _).mono ?_; rintro e w2 ⟨rfl, hp2, hb2⟩))
  obtain ⟨pb, hpb⟩ : ∃ pb, pb = w9.heap.size := ⟨_, rfl⟩
  simp only [← hpb] at hp2 ⊢
  have hl2 : pb < w2.heap.size := (Array.getElem?_eq_some_iff.1 hp2).1
  have hg2 : w.heap.size ≤ pb := by rw [hpb]; exact hb8.size
  have hb02 := hb8.trans (hb2.mono hb8.size)
  clear hpb hb1 hb2 hb8
  go_upto_region 7 with (go_at_call 11; refine (HN.out w2 pb).mono ?_; rintro e w3 ⟨rfl, hb3, hc3⟩)
  have ho := one_new hb02 pb pw0 (newC 20 []) hg2 hl2 (PwW.below (P := pw0) hp2 hb3) hc3 hb3
  obtain ⟨cb, hcb⟩ : ∃ cb, cb = w2.heap.size + 1 := ⟨_, rfl⟩
  obtain ⟨rb, hrb⟩ : ∃ rb, rb = w2.heap.size := ⟨_, rfl⟩
  rw [← hcb, ← hrb] at ho
  simp only [← hcb]
  have HC := Lib.hid (one_cut (N : Int) keep ho)
  have k0 := ho.cell0
  clear hcb hrb ho hb3 hc3 hb02 hp2 hl2 hg2 HN
  go_wp2_with (go_at_call 17; refine HC.out.mono ?_; rintro e w4 ⟨⟨u, rfl⟩, hO4⟩)
  have hci : CI N ⟨pw0.off, max (N : Int) (-1), keep⟩ (newC 20 []) := ci_new N keep
  obtain ⟨P1, hP1⟩ : ∃ P1, P1 = (⟨pw0.off, max (N : Int) (-1), keep⟩ : Pw) := ⟨_, rfl⟩
  obtain ⟨c1, hc1⟩ : ∃ c1, c1 = newC 20 [] := ⟨_, rfl⟩
  rw [← hP1, ← hc1] at hO4 hci
  clear hP1 hc1 HC k0 HGR
  go_loopw [12, 13, 14, 15, 39] (fun v12 v13 v14 v15 v39 wr => ∃ (k : Nat) (P : Pw) (c : Ch), k ≤ n ∧ v39 = .int .i64 k ∧ One w wr pb cb rb P c ∧ CI N P c) (fun _ _ _ _ v39 _ => n - (intOf v39).toNat)
  case atStart => exact ⟨0, P1, c1, by omega, rfl, hO4, hci⟩
  case round =>
    obtain ⟨k, P, c, hk, rfl, hO, hI⟩ := hrel
    clear hO4 hci
    by_cases hlt : k < n
    · have hk1 : (k : Int) < n := by omega
      have hk0 : (0 : Int) ≤ k := by omega
      have hkl : k < os.length := by rw [← HNN.out]; exact hlt
      obtain ⟨b, off, rfl, ho⟩ := HL.out wr hO.b k hkl
      obtain ⟨e0, e1, e2, e3, e4, e5, e6, e7⟩ := ho.cells
      have his := ho.2.1
      clear ho
      obtain ⟨o, ho⟩ : ∃ o, o = os[k] := ⟨_, rfl⟩
      rw [← ho] at e0 e1 e2 e3 e4 e5 e6 e7 his
      obtain ⟨A2, n2, m2, hv⟩ : ∃ A2 n2 m2, o.wv = .slice A2 n2 m2 := by
        obtain ⟨A2, m2, hv, _⟩ := his
        exact ⟨A2, _, m2, hv⟩
      rw [hv] at e7
      unfold encB at e6
      obtain ⟨ob, hob⟩ : ∃ ob, ob = wr.heap.size := ⟨_, rfl⟩
      obtain ⟨W1, hW1⟩ : ∃ W1, W1 = wr.alloc (.cells #[.int .i64 o.kind, .int .i64 o.chip, .int .i64 o.block, .int .i64 o.page, .int .i64 o.n, .int .i64 o.keep, .int .u8 (o.byte.toNat : Int), .slice A2 n2 m2] 47) := ⟨_, rfl⟩
      have HO := Lib.hid hO
      have HI := Lib.hid hI
      clear hv his hO hI ho hkl
      have HOW := Lib.hid (show One w W1 pb cb rb P c from HO.out.below (by rw [hW1]; exact (Below.refl _ _).alloc (Nat.le_refl _) _))
      have hOv : Ov W1 ob o := by
        rw [hW1, hob]
        exact ⟨new_cell wr _ _ _ 0 _ rfl, new_cell wr _ _ _ 2 _ rfl, new_cell wr _ _ _ 3 _ rfl, new_cell wr _ _ _ 6 _ rfl⟩
      have HOV := Lib.hid hOv
      have hnob : ob ∉ [pb, cb, rb] := fun hm => by have := HO.out.lt ob hm; omega
      have HNOB := Lib.hid hnob
      clear hOv hnob HO
      go_upto_region 14 with fail
      rw [← hW1]
      simp only [← hob]
      clear hW1 hob e0 e1 e2 e3 e4 e5 e6 e7
      have HCNT := Lib.hid (fun q => one_count (HOW.out.below (Below.drewN (Below.refl _ _) q)))
      have HOFF := Lib.hid (fun q => one_off (HOW.out.below (Below.drewN (Below.refl _ _) q)))
      have k0 := HOW.out.cell0
      go_wp2_with fail
      go_quiet ((first | (go_at_call 15; exact Calls.quiet_of_same ((HCNT.out _).mono fun _ _ h => ⟨h.1, h.2.symm⟩)) | (go_at_call 18; exact Calls.quiet_of_same ((HOFF.out _).mono fun _ _ h => ⟨h.1, h.2.symm⟩))))
      obtain ⟨W2, hW2⟩ : ∃ W2, W2 = W1.drewN nq := ⟨_, rfl⟩
      have hb12 : Below W1.heap.size W1 W2 := by rw [hW2]; exact Below.drewN (Below.refl _ _) nq
      have HO2 := Lib.hid (HOW.out.below hb12)
      have HV2 := Lib.hid (HOV.out.below hb12)
      rw [← hW2]
      clear hW2 hb12 HCNT HOFF k0 HOW HOV
      have HPG := Lib.hid (fun w => page_any o.byte w)
      have hob0 : encB o.byte = .int .u8 (o.byte.toNat : Int) := rfl
      rw [hob0] at HPG
      have HVD := Lib.hid (show Ov W2.drew ob o from HV2.out.below (Below.refl _ _).drew)
      have HOD := Lib.hid HO2.out.drew
      have HPR := Lib.hid (fun w5 (h : One w w5 pb cb rb P c) => one_progG o.block o.page (pgF o.byte) h (HI.out.okay (by omega) (by omega)))
      obtain ⟨e1, he1⟩ : ∃ x, x = progE P c o.block o.page := ⟨_, rfl⟩
      obtain ⟨P2, hP2⟩ : ∃ x, x = progP P c o.block o.page := ⟨_, rfl⟩
      obtain ⟨c2, hc2⟩ : ∃ x, x = progC P c o.block o.page (pgF o.byte) := ⟨_, rfl⟩
      rw [← he1, ← hP2, ← hc2] at HPR
      have HI2 := Lib.hid (ci_prog HI.out (by omega) o.block o.page (pgF o.byte))
      rw [← he1, ← hP2, ← hc2] at HI2
      clear he1 hP2 hc2 hob0 HO2 HV2
      go_upto_region 15 with fail
      go_region_held3 (fun w' => w'.cell? ⟨ob, 2, none⟩ = some (.int .i64 o.block) ∧ w'.cell? ⟨ob, 3, none⟩ = some (.int .i64 o.page) ∧ w'.cell? ⟨ob, 6, none⟩ = some (.int .u8 (o.byte.toNat : Int))) (first | exact HVD.out.2 | exact HV5.out.2 | exact HV6.out.2)
        (first
          | (go_at_call 14; refine (HPG.out _).mono ?_; rintro e w5 ⟨rfl, hb5⟩; have HO5 := Lib.hid (HOD.out.below hb5); have HV5 := Lib.hid (HVD.out.below hb5); clear hb5)
          | (go_at_call 13; refine (HPR.out _ HO5.out).mono ?_; rintro e w6 ⟨rfl, hO6, hg6⟩; have HO6 := Lib.hid hO6; have HV6 := Lib.hid (HV5.out.chg hg6 HNOB.out); clear hO6 hg6))
      have v0 := HV6.out.1
      have v2 := HV6.out.2.1
      have hk2 := and_1 o.kind
      rcases wfI_and1 o.kind with hr | hr
      · rw [hr] at hk2
        have HER := Lib.hid (one_eraG o.block HO6.out (HI2.out.1.okay (by omega) (by omega)))
        obtain ⟨e3, he3⟩ : ∃ x, x = eraE P2 c2 o.block := ⟨_, rfl⟩
        obtain ⟨P3, hP3⟩ : ∃ x, x = eraP P2 c2 o.block := ⟨_, rfl⟩
        obtain ⟨c3, hc3⟩ : ∃ x, x = eraC P2 c2 o.block := ⟨_, rfl⟩
        rw [← he3, ← hP3, ← hc3] at HER
        have HI3 : Hid (CI N P3 c3 ∧ (P.off = true → e3 = 30 ∧ c3 = c ∧ P3 = P)) := Lib.hid (by
          have h := ci_era HI2.out.1 (by omega) o.block
          rw [← he3, ← hP3, ← hc3] at h
          refine ⟨h.1, fun hw => ?_⟩
          obtain ⟨a1, a2, a3⟩ := HI2.out.2 hw
          obtain ⟨a4, a5, a6⟩ := h.2 (by rw [a3]; exact hw)
          exact ⟨a4, by rw [a5, a2], by rw [a6, a3]⟩)
        clear he3 hP3 hc3 HPR HI2 hr
        go_upto_region 18 with (go_at_call 19; refine HER.out.mono ?_; rintro e w7 ⟨rfl, hO7, hg7⟩; have HO7 := Lib.hid hO7; clear hO7 hg7)
        obtain ⟨cn, hcn⟩ : ∃ x, x = c3.cnt := ⟨_, rfl⟩
        obtain ⟨of3, hof⟩ : ∃ x, x = P3.off := ⟨_, rfl⟩
        have HCN := Lib.hid (one_count HO7.out)
        have HOF := Lib.hid (one_off HO7.out)
        have k0 := HO7.out.cell0
        have ht := HI3.out.1.test
        rw [← hcn] at HCN ht
        rw [← hof] at HOF ht
        have HCI := Lib.hid HI3.out.1
        obtain ⟨t1, t2, t3⟩ := ht
        rcases hwas : P.off with _ | _
        · rcases of3 with _ | _
          · have t4 := t3 rfl
            have t5 : (cn == (N : Int) + 1) = false := beq_eq_false_iff_ne.2 (by omega)
            have HHI := Lib.hid HI
            clear hcn hof t2 t3 hwas HI HI3
            go_wp2_with (first
            | (go_at_call 15; refine HCN.out.mono ?_; rintro e w9 ⟨rfl, rfl⟩)
            | (go_at_call 18; refine HOF.out.mono ?_; rintro e w9 ⟨rfl, rfl⟩))
            go_roundw
            case rel => exact ⟨k + 1, P3, c3, by omega, by go_num, HO7.out, HCI.out⟩
            case measure => simp [intOf]; omega
          · obtain rfl := t2 rfl
            clear hcn hof t3 hwas HI HI3
            go_wp2_with (first
            | (go_at_call 15; refine HCN.out.mono ?_; rintro e w9 ⟨rfl, rfl⟩)
            | (go_at_call 18; refine HOF.out.mono ?_; rintro e w9 ⟨rfl, rfl⟩))
            go_roundw
            case rel => exact ⟨k + 1, P3, c3, by omega, by go_num, HO7.out, HCI.out⟩
            case measure => simp [intOf]; omega
        · obtain ⟨q1, q2, q3⟩ := HI3.out.2 hwas
          have q4 : of3 = true := by rw [hof, q3]; exact hwas
          subst q4
          obtain rfl := t2 rfl
          have q5 : c.cnt = (N : Int) + 1 := by rw [← q2]; exact hcn.symm
          subst q1
          clear hcn hof t3 q2 q3 HI HI3
          go_wp2_with (first
            | (go_at_call 15; refine HCN.out.mono ?_; rintro e w9 ⟨rfl, rfl⟩)
            | (go_at_call 18; refine HOF.out.mono ?_; rintro e w9 ⟨rfl, rfl⟩))
          go_roundw
          case rel => exact ⟨k + 1, P3, c3, by omega, by go_num, HO7.out, HCI.out⟩
          case measure => simp [intOf]; omega
      · rw [hr] at hk2
        clear hr HPR
        go_upto_region 18 with fail
        obtain ⟨cn, hcn⟩ : ∃ x, x = c2.cnt := ⟨_, rfl⟩
        obtain ⟨of3, hof⟩ : ∃ x, x = P2.off := ⟨_, rfl⟩
        have HCN := Lib.hid (one_count HO6.out)
        have HOF := Lib.hid (one_off HO6.out)
        have k0 := HO6.out.cell0
        have ht := HI2.out.1.test
        rw [← hcn] at HCN ht
        rw [← hof] at HOF ht
        have HCI := Lib.hid HI2.out.1
        obtain ⟨t1, t2, t3⟩ := ht
        rcases hwas : P.off with _ | _
        · rcases of3 with _ | _
          · have t4 := t3 rfl
            have t5 : (cn == (N : Int) + 1) = false := beq_eq_false_iff_ne.2 (by omega)
            have HHI := Lib.hid HI
            clear hcn hof t2 t3 hwas HI HI2
            go_wp2_with (first
            | (go_at_call 15; refine HCN.out.mono ?_; rintro e w9 ⟨rfl, rfl⟩)
            | (go_at_call 18; refine HOF.out.mono ?_; rintro e w9 ⟨rfl, rfl⟩))
            go_roundw
            case rel => exact ⟨k + 1, P2, c2, by omega, by go_num, HO6.out, HCI.out⟩
            case measure => simp [intOf]; omega
          · obtain rfl := t2 rfl
            clear hcn hof t3 hwas HI HI2
            go_wp2_with (first
            | (go_at_call 15; refine HCN.out.mono ?_; rintro e w9 ⟨rfl, rfl⟩)
            | (go_at_call 18; refine HOF.out.mono ?_; rintro e w9 ⟨rfl, rfl⟩))
            go_roundw
            case rel => exact ⟨k + 1, P2, c2, by omega, by go_num, HO6.out, HCI.out⟩
            case measure => simp [intOf]; omega
        · obtain ⟨q1, q2, q3⟩ := HI2.out.2 hwas
          have q4 : of3 = true := by rw [hof, q3]; exact hwas
          subst q4
          obtain rfl := t2 rfl
          have q5 : c.cnt = (N : Int) + 1 := by rw [← q2]; exact hcn.symm
          subst q1
          clear hcn hof t3 q2 q3 HI HI2
          go_wp2_with (first
            | (go_at_call 15; refine HCN.out.mono ?_; rintro e w9 ⟨rfl, rfl⟩)
            | (go_at_call 18; refine HOF.out.mono ?_; rintro e w9 ⟨rfl, rfl⟩))
          go_roundw
          case rel => exact ⟨k + 1, P2, c2, by omega, by go_num, HO6.out, HCI.out⟩
          case measure => simp [intOf]; omega
    · obtain rfl : k = n := by omega
      have HB := Lib.hid hO.b
      clear hO hI
      go_wp2_with fail
      go_ret
      exact ⟨rfl, HB.out⟩
end Go.Proofs.YtofjabejkcicjaaK

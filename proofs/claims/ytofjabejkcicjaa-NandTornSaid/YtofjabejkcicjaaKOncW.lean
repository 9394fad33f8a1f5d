import Derived.Test.YtofjabejkcicjaaKOnc
import Derived.Test.YtofjabejkcicjaaKCutW
import Derived.StillTailTactics
namespace Go.Proofs.YtofjabejkcicjaaK
open Go.RowKit
set_option linter.unusedSimpArgs false
set_option linter.unusedVariables false
/-! NandOnce. -/
theorem and_3 (x : Int) : bits .and .i64 x 3 = x % 4 := by
  show IntKind.i64.wrap (((BitVec.ofInt 64 x) &&& (BitVec.ofInt 64 3)).toNat : Int) = _
  rw [BitVec.toNat_and, BitVec.toNat_ofInt, BitVec.toNat_ofInt]
  have h1 : ((3 : Int) % ((2 ^ 64 : Nat) : Int)).toNat = 2 ^ 2 - 1 := by decide
  rw [h1, Nat.and_two_pow_sub_one_eq_mod, IntKind.wrap_i64]
  omega
theorem mod4_cases (x : Int) : x % 4 = 0 ∨ x % 4 = 1 ∨ x % 4 = 2 ∨ x % 4 = 3 := by omega
def Ow (w : World) (ob : Nat) (o : Sop) : Prop := Ov w ob o ∧ w.cell? ⟨ob, 4, none⟩ = some (.int .i64 o.n) ∧ w.cell? ⟨ob, 5, none⟩ = some (.int .i64 o.keep)
theorem Ow.below {w w' : World} {ob : Nat} {o : Sop} (h : Ow w ob o) (hb : Below w.heap.size w w') : Ow w' ob o :=
  ⟨h.1.below hb, (Chg.ofBelow (S := []) hb).cell h.2.1 (by simp), (Chg.ofBelow (S := []) hb).cell h.2.2 (by simp)⟩
theorem range_chg {S : List Nat} {w w' : World} {b o : Nat} {L : List Value} (h : w.rangeAt b o L) (g : Chg S w w') (hn : b ∉ S) : w'.rangeAt b o L := fun j v hv => g.cell (h j v hv) hn
theorem Arr.chg' {S : List Nat} {w w' : World} {b : Nat} {L : List Value} (h : Arr w b L) (g : Chg S w w') (hn : b ∉ S) : Arr w' b L := by
  refine ⟨range_chg h.1 g hn, fun j hj => ?_, Nat.lt_of_lt_of_le h.2.2 g.size⟩
  have h1 := h.2.1 j hj
  have h2 := g.block b h.2.2 hn
  unfold World.cell? World.frozen? at h1 ⊢
  simp only [h2]
  exact h1
section
variable {w0 w w' : World} {pb cb rb : Nat} {P P' : Pw} {c c' : Ch}
theorem one_read (b p : Int) (h : One w0 w pb cb rb P c) :
    Calls Try.prog 21 #[.pointer (some ⟨cb, 0, none⟩), .int .i64 b, .int .i64 p] w fun e w' =>
      e = .returned (.tuple #[.agg (pgL (readD P c b p)).toArray, .int .i64 (mayC P c b p)]) ∧ Below w.heap.size w w' := read_any _ pb cb rb P c b p w h.p h.c
end
set_option maxRecDepth 100000 in
set_option maxHeartbeats 20000000 in
theorem nandOnce_walk (b : UInt8) (A : Option Addr) (n c0 : Nat) (os : List Sop) (w : World) (hX : Ops w (.slice A n c0) os) :
    Calls Try.prog 5 #[encB b, .slice A n c0] w fun e w' => e = .returned (.bool true) ∧ Below w.heap.size w w' := by
  have hlen := hX.len
  have HNN := Lib.hid hlen
  have h63 := hX.max
  have HL := Lib.hid (fun (wr : World) (hb : Below w.heap.size w wr) (k : Nat) (hk : k < os.length) => (hX.below hb).at k hk)
  have HGR := Lib.hid (fun (wr : World) (hb : Below w.heap.size w wr) => great_any A n c0 os wr (hX.below hb))
  obtain ⟨g, hg⟩ : ∃ g, g = greatB os := ⟨_, rfl⟩
  rw [← hg] at HGR
  have hgl : g = false → n ≤ 120 := by
    intro e
    rw [hg] at e
    unfold greatB at e
    rw [Bool.or_eq_false_iff] at e
    have := e.1
    rw [hlen]
    simpa using this
  clear hX hlen hg
  have HPG := Lib.hid (fun w => page_any b w)
  have hb0 : encB b = .int .u8 (b.toNat : Int) := rfl
  rw [hb0] at HPG ⊢
  clear hb0
  rcases g with _ | _
  rotate_left
  · go_enter Try.func5, Try.ntmps5
    go_wp2_with (first
      | (go_at_call 9; refine (nand_speaks _).mono ?_; rintro e w1 ⟨rfl, hb1⟩)
      | (go_at_call 16; refine (HGR.out _ hb1).mono ?_; rintro e w2 ⟨rfl, hb2⟩; have hb3 := hb1.trans (hb2.mono hb1.size)))
    go_ret
    exact ⟨rfl, hb3⟩
  have hn120 := hgl rfl
  clear hgl
  have HN := Lib.hid (fun (w1 : World) (pb : Nat) => new_any pb 20 (.slice none 0 0) [] [] w1 (by omega) (by omega) (Ints.nil _ _ _ _) rfl)
  obtain ⟨F, hF⟩ : ∃ F, F = pgF b := ⟨_, rfl⟩
  rw [← hF] at HPG
  clear hF
  go_enter Try.func5, Try.ntmps5
  go_upto_region 6 with (first
    | (go_at_call 9; refine (nand_speaks _).mono ?_; rintro e w1 ⟨rfl, hb1⟩)
    | (go_at_call 16; refine (HGR.out _ hb1).mono ?_; rintro e w9 ⟨rfl, hb9⟩; have hb8 := hb1.trans (hb9.mono hb1.size); clear hb9)
    | (go_at_call 10; refine (newPower_any _).mono ?_; rintro e w2 ⟨rfl, hp2, hb2⟩))
  obtain ⟨pb, hpb⟩ : ∃ pb, pb = w9.heap.size := ⟨_, rfl⟩
  simp only [← hpb] at hp2 ⊢
  have hl2 : pb < w2.heap.size := (Array.getElem?_eq_some_iff.1 hp2).1
  have hg2 : w.heap.size ≤ pb := by rw [hpb]; exact hb8.size
  have hb02 := hb8.trans (hb2.mono hb8.size)
  clear hpb hb1 hb2 hb8
  go_upto_region 7 with (go_at_call 11; refine (HN.out w2 pb).mono ?_; rintro e w3 ⟨rfl, hb3, hc3⟩)
  have ho := one_new hb02 pb pw0 (newC 20 []) hg2 hl2 (PwW.below (P := pw0) hp2 hb3) hc3 hb3
  obtain ⟨cb, hcb⟩ : ∃ cb, cb = w2.heap.size + 1 := ⟨_, rfl⟩
  obtain ⟨rb, hrb⟩ : ∃ rb, rb = w2.heap.size := ⟨_, rfl⟩
  rw [← hcb, ← hrb] at ho
  simp only [← hcb]
  have HO := Lib.hid ho
  have HPR := Lib.hid (fun w4 (h : One w w4 pb cb rb pw0 (newC 20 [])) => (by
    have h1 := one_prog 5 0 F h (ok_new 20 [])
    have h2 := once_new F
    rw [h2.1, h2.2.1] at h1
    exact h1.mono (fun e w' h3 => ⟨h3.1, _, h3.2, h2.2.2⟩) : Calls Try.prog 13 #[.pointer (some ⟨cb, 0, none⟩), .int .i64 5, .int .i64 0, .agg (pgL F).toArray] w4 fun e w' => e = .returned (.int .i64 0) ∧ ∃ c1, One w w' pb cb rb pw0 c1 ∧ OI F 1 pw0 c1))
  clear hcb hrb ho hb3 hc3 hb02 hp2 hl2 hg2 HN HGR
  obtain ⟨L, hL⟩ : ∃ L, L = pgL F := ⟨_, rfl⟩
  rw [← hL] at HPG HPR
  have HLF := Lib.hid hL
  clear hL
  go_wp2_with (first
    | (go_at_call 14; refine (HPG.out _).mono ?_; rintro e w4 ⟨rfl, hb4⟩; have HO4 := Lib.hid (HO.out.below hb4); clear hb4 HO)
    | (go_at_call 13; refine (HPR.out _ HO4.out).mono ?_; rintro e w5 ⟨rfl, c1, hO5, hI5⟩; clear HPR))
  go_loopw [9, 36, 52, 61, 72] (fun v9 v36 v52 v61 v72 wr => ∃ (k : Nat) (P : Pw) (c : Ch), k ≤ n ∧ v36 = .int .i64 k ∧ One w wr pb cb rb P c ∧ OI F (1 + k) P c) (fun _ v36 _ _ _ _ => n - (intOf v36).toNat)
  case atStart => exact ⟨0, pw0, c1, by omega, rfl, hO5, by simpa using hI5⟩
  case round =>
    obtain ⟨k, P, c, hk, rfl, hO, hI⟩ := hrel
    clear hO5 hI5 HO4
    by_cases hlt : k < n
    · have hk1 : (k : Int) < n := by omega
      have hk0 : (0 : Int) ≤ k := by omega
      have hkl : k < os.length := by rw [← HNN.out]; exact hlt
      obtain ⟨bb, off, rfl, ho⟩ := HL.out wr hO.b k hkl
      obtain ⟨e0, e1, e2, e3, e4, e5, e6, e7⟩ := ho.cells
      have his := ho.2.1
      obtain ⟨hwn, _⟩ : wfI os[k].n ∧ True := ⟨ho.2.2.2.2.2.2.2.1, trivial⟩
      clear ho
      obtain ⟨o, ho⟩ : ∃ o, o = os[k] := ⟨_, rfl⟩
      rw [← ho] at e0 e1 e2 e3 e4 e5 e6 e7 his hwn
      obtain ⟨A2, n2, m2, hv⟩ : ∃ A2 n2 m2, o.wv = .slice A2 n2 m2 := by
        obtain ⟨A2, m2, hv, _⟩ := his
        exact ⟨A2, _, m2, hv⟩
      rw [hv] at e7
      unfold encB at e6
      have hnb := bounds_i64 hwn
      obtain ⟨ob, hob⟩ : ∃ ob, ob = wr.heap.size := ⟨_, rfl⟩
      obtain ⟨W1, hW1⟩ : ∃ W1, W1 = wr.alloc (.cells #[.int .i64 o.kind, .int .i64 o.chip, .int .i64 o.block, .int .i64 o.page, .int .i64 o.n, .int .i64 o.keep, .int .u8 (o.byte.toNat : Int), .slice A2 n2 m2] 47) := ⟨_, rfl⟩
      have HI := Lib.hid hI
      have HOW := Lib.hid (show One w W1 pb cb rb P c from hO.below (by rw [hW1]; exact (Below.refl _ _).alloc (Nat.le_refl _) _))
      have hOw : Ow W1 ob o := by
        rw [hW1, hob]
        exact ⟨⟨new_cell wr _ _ _ 0 _ rfl, new_cell wr _ _ _ 2 _ rfl, new_cell wr _ _ _ 3 _ rfl, new_cell wr _ _ _ 6 _ rfl⟩, new_cell wr _ _ _ 4 _ rfl, new_cell wr _ _ _ 5 _ rfl⟩
      have hnob : ob ∉ [pb, cb, rb] := fun hm => by have := hO.lt ob hm; omega
      have HNOB := Lib.hid hnob
      have HOV := Lib.hid hOw
      have HNBD := Lib.hid hnb
      clear hv his hO hI ho hkl hOw hnob hwn hnb
      go_upto_region 12 with fail
      rw [← hW1]
      simp only [← hob]
      clear hW1 hob e0 e1 e2 e3 e4 e5 e6 e7
      have k0 := HOW.out.cell0
      obtain ⟨⟨v0, v2, v3, v6⟩, v4, v5⟩ := HOV.out
      have hk2 := and_3 o.kind
      rcases mod4_cases o.kind with hr | hr | hr | hr
      · rw [hr] at hk2
        by_cases h5 : o.block = 5
        · rw [h5] at v2
          have hne : ((5 : Int) != 5) = false := rfl
          go_wp2_with fail
          go_roundw
          case rel => exact ⟨k + 1, P, c, by omega, by go_num, HOW.out, by have := HI.out.up; rw [show (1 : Int) + ((k + 1 : Nat) : Int) = 1 + k + 1 from by omega]; exact this⟩
          case measure => simp [intOf]; omega
        · have hne : (o.block != 5) = true := by simpa using h5
          have HER := Lib.hid (one_era o.block HOW.out (HI.out.okay (by omega)))
          go_wp2_with (go_at_call 19; refine HER.out.mono ?_; rintro e w7 ⟨rfl, hO7⟩)
          go_roundw
          case rel => exact ⟨k + 1, _, _, by omega, by go_num, hO7, by have := HI.out.era o.block h5; rw [show (1 : Int) + ((k + 1 : Nat) : Int) = 1 + k + 1 from by omega]; exact this⟩
          case measure => simp [intOf]; omega
      · rw [hr] at hk2
        have HCT := Lib.hid (one_cut o.n o.keep HOW.out.drew)
        go_wp2_with fail
        go_still_tail 8, (by kernel_rfl)
        change wpList _ _ _ _ _ W1.drew
        go_wp2_with (go_at_call 17; refine HCT.out.mono ?_; rintro e w7 ⟨⟨u, rfl⟩, hO7⟩)
        go_roundw
        case rel => exact ⟨k + 1, _, _, by omega, by go_num, hO7, by have := HI.out.power ⟨P.off, max o.n (-1), o.keep⟩ (by have := HNBD.out; show -1 ≤ max o.n (-1); omega) (by have := HNBD.out; show max o.n (-1) ≤ _; omega); rw [show (1 : Int) + ((k + 1 : Nat) : Int) = 1 + k + 1 from by omega]; exact this⟩
        case measure => simp [intOf]; omega
      · rw [hr] at hk2
        have HON := Lib.hid (one_on HOW.out)
        go_wp2_with (go_at_call 20; refine HON.out.mono ?_; rintro e w7 ⟨⟨u, rfl⟩, hO7⟩)
        go_roundw
        case rel => exact ⟨k + 1, _, _, by omega, by go_num, hO7, by have := HI.out.power ⟨false, -1, P.keep⟩ (by simp) (by simp); rw [show (1 : Int) + ((k + 1 : Nat) : Int) = 1 + k + 1 from by omega]; exact this⟩
        case measure => simp [intOf]; omega
      · rw [hr] at hk2
        have HP2 := Lib.hid (fun w => page_any o.byte w)
        have hob0 : encB o.byte = .int .u8 (o.byte.toNat : Int) := rfl
        rw [hob0] at HP2
        have HVD := Lib.hid (show Ow W1.drew ob o from HOV.out.below (Below.refl _ _).drew)
        have HOD := Lib.hid HOW.out.drew
        have HPR := Lib.hid (fun w5 (h : One w w5 pb cb rb P c) => one_progG o.block o.page (pgF o.byte) h (HI.out.okay (by omega)))
        clear hob0 k0
        go_wp2_with fail
        clear v0 v2 v3 v4 v5 v6
        go_region_held3 (fun w' => w'.cell? ⟨ob, 2, none⟩ = some (.int .i64 o.block) ∧ w'.cell? ⟨ob, 3, none⟩ = some (.int .i64 o.page) ∧ w'.cell? ⟨ob, 6, none⟩ = some (.int .u8 (o.byte.toNat : Int))) (first | exact HVD.out.1.2 | exact HV5.out.1.2 | exact HV6.out.2)
          (first
            | (go_at_call 14; refine (HP2.out _).mono ?_; rintro e w5 ⟨rfl, hb5⟩; have HO5 := Lib.hid (HOD.out.below hb5); have HV5 := Lib.hid (HVD.out.below hb5); clear hb5)
            | (go_at_call 13; refine (HPR.out _ HO5.out).mono ?_; rintro e w6 ⟨rfl, hO6, hg6⟩; have HV6 := Lib.hid (HV5.out.1.chg hg6 HNOB.out); clear hg6))
        go_wp2_with fail
        go_roundw
        case rel => exact ⟨k + 1, _, _, by omega, by go_num, hO6, by have := HI.out.prog o.block o.page (pgF o.byte); rw [show (1 : Int) + ((k + 1 : Nat) : Int) = 1 + k + 1 from by omega]; exact this⟩
        case measure => simp [intOf]; omega
    · obtain rfl : k = n := by omega
      have k0 := hO.cell0
      have HON := Lib.hid (one_on hO)
      have HI := Lib.hid (hI.power ⟨false, -1, P.keep⟩ (by simp) (by simp))
      clear hO hI
      obtain ⟨P1, hP1⟩ : ∃ P1, P1 = (⟨false, -1, P.keep⟩ : Pw) := ⟨_, rfl⟩
      rw [← hP1] at HON HI
      have HO1 := Lib.hid (show P1.off = false ∧ P1.aft = -1 from by rw [hP1]; exact ⟨rfl, rfl⟩)
      clear hP1
      have HRD := Lib.hid (fun w7 (h : One w w7 pb cb rb P1 c) => (by
        have h1 := one_read 5 0 h
        rw [HI.out.read HO1.out.1, HI.out.may HO1.out.1, ← HLF.out] at h1
        exact h1.mono (fun e w' h3 => ⟨h3.1, h.below h3.2, h3.2⟩) : Calls Try.prog 21 #[.pointer (some ⟨cb, 0, none⟩), .int .i64 5, .int .i64 0] w7 fun e w' => e = .returned (.tuple #[.agg L.toArray, .int .i64 0]) ∧ One w w' pb cb rb P1 c ∧ Below w7.heap.size w7 w'))
      go_upto_region 23 with (go_at_call 20; refine HON.out.mono ?_; rintro e w7 ⟨⟨u, rfl⟩, hO7⟩)
      have HO7 := Lib.hid hO7
      clear hO7 HON k0
      obtain ⟨Z, hZ⟩ : ∃ Z : List Value, Z = pgL (fun _ => 0) := ⟨_, rfl⟩
      have hz := page_zero
      rw [← hZ] at hz
      have hZl : Z.length = 258 := by rw [hZ]; exact pgL_len _
      have hLl : L.length = 258 := by rw [HLF.out]; exact pgL_len _
      obtain ⟨E, hE⟩ : ∃ E, E = pgL (fun _ => 255) := ⟨_, rfl⟩
      have hEl : E.length = 258 := by rw [hE]; exact pgL_len _
      have HIL := Lib.hid (show (Try.prog.info? 34).map (·.size) = some L.length by rw [hLl]; exact page_info)
      have HIA := Lib.hid (show (Try.prog.info? 34).map (·.size) = some L.toArray.size by rw [List.size_toArray, hLl]; exact page_info)
      have HIE := Lib.hid (show (Try.prog.info? 34).map (·.size) = some E.toArray.size by rw [List.size_toArray, hEl]; exact page_info)
      have H1A := Lib.hid (show L.toArray.all (·.oneCell') = true by rw [HLF.out]; exact pgL_one _)
      have H1E := Lib.hid (show E.toArray.all (·.oneCell') = true by rw [hE]; exact pgL_one _)
      have HLZ := Lib.hid (show L.toArray.size = Z.length by simp [hLl, hZl])
      have HEZ := Lib.hid (show E.toArray.size = Z.length by simp [hEl, hZl])
      have HE0 := Lib.hid (show E[0]? = some (.int .u8 255) by rw [hE]; exact pgL_at _ 0 (by omega))
      have HE9 := Lib.hid (show E[257]? = some (.int .u8 255) by rw [hE]; exact pgL_at _ 257 (by omega))
      have hER := HI.out.eraE HO1.out.1 HO1.out.2
      have HOK := Lib.hid (HI.out.okay (by omega))
      obtain ⟨P2, hP2⟩ : ∃ P2, P2 = (⟨false, -1, P1.keep⟩ : Pw) := ⟨_, rfl⟩
      have hp2 : P2.off = false ∧ P2.aft = -1 := by rw [hP2]; exact ⟨rfl, rfl⟩
      obtain ⟨c2, hc2⟩ : ∃ c2, c2 = eraC P1 c 5 := ⟨_, rfl⟩
      rw [← hP2, ← hc2] at hER
      obtain ⟨j1, j2, j3, j4, j5, j6, j7, j8, j9, j10, j11, j12⟩ := hER
      have HER := Lib.hid (fun w9 (h : One w w9 pb cb rb P1 c) => (by
        have h1 := one_eraG 5 h HOK.out
        rw [j1, j2, ← hc2] at h1
        exact h1 : Calls Try.prog 19 #[.pointer (some ⟨cb, 0, none⟩), .int .i64 5] w9 fun e w' => e = .returned (.int .i64 0) ∧ One w w' pb cb rb P2 c2 ∧ Chg [pb, cb, rb] w9 w'))
      have HR2 := Lib.hid (fun w9 (h : One w w9 pb cb rb P2 c2) => (by
        have h1 := one_read 5 0 h
        have hm : mayC P2 c2 5 0 = 0 := by
          unfold mayC mayI
          rw [hp2.1, j4, j5, j3]
          rfl
        have hd : pgL (readD P2 c2 5 0) = E := by
          rw [hE]
          unfold readD
          rw [if_pos hm]
          exact pgL_congr fun k _ => j12 k
        rw [hd, hm] at h1
        exact h1.mono (fun e w' h3 => ⟨h3.1, h.below h3.2, h3.2⟩) : Calls Try.prog 21 #[.pointer (some ⟨cb, 0, none⟩), .int .i64 5, .int .i64 0] w9 fun e w' => e = .returned (.tuple #[.agg E.toArray, .int .i64 0]) ∧ One w w' pb cb rb P2 c2 ∧ Below w9.heap.size w9 w'))
      have HOK2 : Hid (Okay P2 c2) := Lib.hid (by
        obtain ⟨x1, x2, x3, x4, x5, x6, x7, x8⟩ := HOK.out
        have y1 := HI.out.p2
        have y2 := HI.out.w2
        have y3 := HI.out.c2
        exact ⟨by rw [hp2.2]; omega, by rw [hp2.2]; omega, by omega, by omega, by omega, by omega, by omega, by omega⟩)
      have HP9 := Lib.hid (fun w9 (h : One w w9 pb cb rb P2 c2) => (by
        have h1 := one_progG 5 0 F h HOK2.out
        rw [prog_zero hp2.1 hp2.2 j3 j4 j5 j6 j7 j8, ← HLF.out] at h1
        exact h1.mono (fun e w' h3 => ⟨h3.1, h3.2.1.b, h3.2.2⟩) : Calls Try.prog 13 #[.pointer (some ⟨cb, 0, none⟩), .int .i64 5, .int .i64 0, .agg L.toArray] w9 fun e w' => e = .returned (.int .i64 0) ∧ Below w.heap.size w w' ∧ Chg [pb, cb, rb] w9 w'))
      have heq : ∀ w9, (Op.equalIn 10000 34 (.agg L.toArray) (.agg L.toArray)).run Try.prog w9 = .ok true w9 := fun w9 => by rw [HLF.out]; exact pg_self F w9
      clear hZ hZl hLl hE hEl j1 j2 j3 j4 j5 j6 j7 j8 j9 j10 j11 j12 hP2 hc2 hp2
      go_upto_region 24 with (first
        | (go_at_call 21; refine (HRD.out _ HO7.out).mono ?_; rintro e w8 ⟨rfl, hO8, hb8⟩; have hA8 := arr_newL w8 Z 34)
        | (refine wpList_store_mid rfl 34 _ _ rfl w8.heap.size 0 L.toArray rfl rfl (hA8.thereA HLZ.out) HIA.out H1A.out ?_))
      obtain ⟨x1, hx1⟩ : ∃ x1, x1 = w8.heap.size := ⟨_, rfl⟩
      obtain ⟨W9, hW9⟩ : ∃ W9, W9 = (w8.alloc (.cells Z.toArray 34)).setCells w8.heap.size 0 L.toArray.toList := ⟨_, rfl⟩
      have hA9 : Arr W9 x1 L := by rw [hW9, hx1]; have := hA8.setA_same HLZ.out; simpa using this
      have hB9 : Below w8.heap.size w8 W9 := by rw [hW9]; exact below_setCells (Nat.le_refl _) _ 0 ((Below.refl _ _).alloc (Nat.le_refl _) _)
      have HO9 := Lib.hid (hO8.below hB9)
      have hn1 : x1 ∉ [pb, cb, rb] := fun hm => by have := hO8.lt x1 hm; omega
      have HN1 := Lib.hid hn1
      have HA9 := Lib.hid hA9
      rw [← hW9]
      simp only [← hx1]
      clear hW9 hx1 hA9 hB9 hn1 hA8 hO8 hb8 HRD HO7
      go_upto_region 26 with (first
        | (go_at_call 19; refine (HER.out _ HO9.out).mono ?_; rintro e w10 ⟨rfl, hO10, hg10⟩; have HA10 := Lib.hid (HA9.out.chg' hg10 HN1.out); have HO10 := Lib.hid hO10; clear hO10 hg10)
        | (go_at_call 21; refine (HR2.out _ HO10.out).mono ?_; rintro e w11 ⟨rfl, hO11, hb11⟩; have hA11 := arr_newL w11 Z 34; have HA11 := Lib.hid (HA10.out.below hb11))
        | (refine wpList_store_mid rfl 34 _ _ rfl w11.heap.size 0 E.toArray rfl rfl (hA11.thereA HEZ.out) HIE.out H1E.out ?_))
      obtain ⟨x2, hx2⟩ : ∃ x2, x2 = w11.heap.size := ⟨_, rfl⟩
      obtain ⟨W12, hW12⟩ : ∃ W12, W12 = (w11.alloc (.cells Z.toArray 34)).setCells w11.heap.size 0 E.toArray.toList := ⟨_, rfl⟩
      have hA12 : Arr W12 x2 E := by rw [hW12, hx2]; have := hA11.setA_same HEZ.out; simpa using this
      have hB12 : Below w11.heap.size w11 W12 := by rw [hW12]; exact below_setCells (Nat.le_refl _) _ 0 ((Below.refl _ _).alloc (Nat.le_refl _) _)
      have HO12 := Lib.hid (hO11.below hB12)
      have HA1 := Lib.hid (HA11.out.below hB12)
      have HC1 := Lib.hid (show W12.cell? ⟨x2, 0, none⟩ = some (.int .u8 255) ∧ W12.cell? ⟨x2, 257, none⟩ = some (.int .u8 255) from ⟨hA12.at_ 0 _ HE0.out, hA12.at_ 257 _ HE9.out⟩)
      have hn2 : x2 ∉ [pb, cb, rb] := fun hm => by have := hO11.lt x2 hm; omega
      have HN2 := Lib.hid hn2
      rw [← hW12]
      simp only [← hx2]
      clear hW12 hx2 hA12 hB12 hn2 hA11 hO11 hb11 HA11 hz
      have HS := Lib.hid (fun (wa : World) (hb : Below W12.heap.size W12 wa) => (show (wa.rangeAt x1 0 L ∧ wa.cell? ⟨x2, 0, none⟩ = some (.int .u8 255) ∧ wa.cell? ⟨x2, 257, none⟩ = some (.int .u8 255)) ∧ One w wa pb cb rb P2 c2 from
        ⟨⟨(HA1.out.below hb).1, (Chg.ofBelow (S := []) hb).cell HC1.out.1 (by simp), (Chg.ofBelow (S := []) hb).cell HC1.out.2 (by simp)⟩, HO12.out.below hb⟩))
      have hb0 : Below W12.heap.size W12 W12.drew := (Below.refl _ _).drew
      have hiL := HIL.out
      have hu := Try.underlying34
      go_region_held3 (fun w' => w'.rangeAt x1 0 L ∧ w'.cell? ⟨x2, 0, none⟩ = some (.int .u8 255) ∧ w'.cell? ⟨x2, 257, none⟩ = some (.int .u8 255)) (first | exact (HS.out _ hb0).1 | exact (HS.out _ hbA).1 | exact HSD.out | exact (HS.out _ hbB).1)
        (first
          | (go_at_call 14; refine (HPG.out _).mono ?_; rintro e wA ⟨rfl, hbx⟩; have hbA := hb0.trans (hbx.mono hb0.size); clear hbx hb0)
          | (go_at_call 14; refine (HPG.out _).mono ?_; rintro e wB ⟨rfl, hbx⟩; have hbB := hbA.trans (hbx.mono hbA.size); clear hbx)
          | (go_at_call 13; refine (HP9.out _ (HS.out _ hbB).2).mono ?_; rintro e wC ⟨rfl, hbC, hgC⟩; have hSC := (HS.out _ hbB).1; have hSD : wC.rangeAt x1 0 L ∧ wC.cell? ⟨x2, 0, none⟩ = some (.int .u8 255) ∧ wC.cell? ⟨x2, 257, none⟩ = some (.int .u8 255) := ⟨range_chg hSC.1 hgC HN1.out, hgC.cell hSC.2.1 HN2.out, hgC.cell hSC.2.2 HN2.out⟩; have HSD := Lib.hid hSD; clear hSC hSD hgC))
      go_wp2_with fail
      go_ret
      exact ⟨rfl, hbC⟩
theorem nandOnce_row (a0 : Int) (w0 : (Lit.int .u8 a0).wf = true) (A : Option Addr) (n c0 : Nat) (os : List Sop) (w : World) (hX : Ops w (.slice A n c0) os) :
    Calls Try.prog 5 #[.int .u8 a0, .slice A n c0] w fun e w' => e = .returned (.bool true) ∧ Below w.heap.size w w' := by
  have hb := bounds_u8 w0
  have he : encB (UInt8.ofNat a0.toNat) = .int .u8 a0 := by
    unfold encB
    rw [UInt8.toNat_ofNat']
    congr 1
    omega
  rw [← he]
  exact nandOnce_walk _ A n c0 os w hX
end Go.Proofs.YtofjabejkcicjaaK
